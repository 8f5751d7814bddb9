/- Chapter 4: what Looked and the phases of a field say; copies of fields. -/
import Derived.Test.YtfiioadmpjmmgaaGreatDoorXQ
import Derived.Test.YtfiioadmpjmmgaaGreatDoorX87
import Derived.Test.YtfiioadmpjmmgaaGreatDoorXB
import Derived.Test.YtfiioadmpjmmgaaGreatDoorXF
namespace Go.Proofs.YtfiioadmpjmmgaaGreatDoor
set_option linter.unusedVariables false
set_option linter.unusedSimpArgs false
open Go.RowKit Ieee Ntt
/-- What Looked says of a field: a field, or nothing. -/
structure LdSay (W : World) (B : Nat) (L S : Int) (n : Nat) (F : Nat → Nat × Nat) (E : Int) (l s : Int) (k : Nat) (a : Option Addr) : Prop where
  ok : E = 0 → l = L ∧ s = S ∧ k = n ∧ OwnS W B n F a
  bad : E ≠ 0 → l = 0 ∧ s = 0 ∧ k = 0
theorem LdSay.sum {W : World} {B : Nat} {L S : Int} {n : Nat} {F : Nat → Nat × Nat} {E : Int} {l s : Int} {k c : Nat} {a : Option Addr} (h : LdSay W B L S n F E l s k a) (hn : n ≤ 100000) : SumV W (.slice a k c) k F := by
  by_cases h0 : E = 0
  · obtain ⟨-, -, rfl, ho⟩ := h.ok h0
    exact ⟨hn, a, c, rfl, fun hp => by obtain ⟨g, h1, -, h3, h4⟩ := ho hp; exact ⟨g, 0, h1, h3, h4⟩⟩
  · obtain ⟨-, -, rfl⟩ := h.bad h0
    exact ⟨by decide, a, c, rfl, fun hp => absurd hp (by decide)⟩
theorem LdSay.below {W W' : World} {B : Nat} {L S : Int} {n : Nat} {F : Nat → Nat × Nat} {E : Int} {l s : Int} {k : Nat} {a : Option Addr} (h : LdSay W B L S n F E l s k a) (hb : Below W.heap.size W W') : LdSay W' B L S n F E l s k a :=
  ⟨fun e => by
    obtain ⟨h1, h2, h3, h4⟩ := h.ok e
    exact ⟨h1, h2, h3, fun hp => by obtain ⟨g, q1, q2, q3, q4⟩ := h4 hp; exact ⟨g, q1, q2, by have := hb.size; omega, q4.below q3 hb⟩⟩, h.bad⟩
theorem LdSay.set {W : World} {B : Nat} {L S : Int} {n : Nat} {F : Nat → Nat × Nat} {E : Int} {l s : Int} {k : Nat} {a : Option Addr} (h : LdSay W B L S n F E l s k a) {p : Addr} (hp : p.block < B) (v : Value) : LdSay (W.setCell p v) B L S n F E l s k a :=
  ⟨fun e => by
    obtain ⟨h1, h2, h3, h4⟩ := h.ok e
    exact ⟨h1, h2, h3, OwnS.set h4 hp v⟩, h.bad⟩
theorem ld_same {W : World} {B B' : Nat} {L S : Int} {n : Nat} {F : Nat → Nat × Nat} {E : Int} {l s : Int} {k c : Nat} {a : Option Addr} {l' s' : Int} {k' c' : Nat} {a' : Option Addr} (h : LdSay W B L S n F E l s k a) (h' : LdSay W B' L S n F E l' s' k' a') (hn : n ≤ 100000) :
    Calls Tryz.prog 18 #[.agg #[.int .i64 l, .int .i64 s, .slice a k c], .agg #[.int .i64 l', .int .i64 s', .slice a' k' c']] W fun e w' => e = .returned (.bool true) ∧ Below W.heap.size W w' := by
  refine sameFd_any l s l' s' k k' F F _ _ W (h.sum hn) (h'.sum hn) ⟨fun _ => ?_, fun _ => rfl⟩
  by_cases h0 : E = 0
  · obtain ⟨rfl, rfl, rfl, -⟩ := h.ok h0
    obtain ⟨rfl, rfl, rfl, -⟩ := h'.ok h0
    exact ⟨rfl, rfl, rfl, fun _ _ => rfl⟩
  · obtain ⟨rfl, rfl, rfl⟩ := h.bad h0
    obtain ⟨rfl, rfl, rfl⟩ := h'.bad h0
    exact ⟨rfl, rfl, rfl, fun _ _ => rfl⟩
theorem ld_none {W : World} {L S : Int} {n : Nat} {F : Nat → Nat × Nat} {E : Int} (h : E ≠ 0) : LdSay W 0 L S n F E 0 0 0 none := ⟨fun e => absurd e h, fun _ => ⟨rfl, rfl, rfl⟩⟩

def LkSay (L S : Int) (n : Nat) (F : Nat → Nat × Nat) (E : Int) (W : World) (e : Ending) (w' : World) : Prop :=
  ∃ l s k q c, e = .returned (.tuple #[.agg #[.int .i64 l, .int .i64 s, .slice q k c], .int .i64 E]) ∧ LdSay w' W.heap.size L S n F E l s k q ∧ Below W.heap.size W w'
theorem LkSay.of_bad {L S : Int} {n : Nat} {F : Nat → Nat × Nat} {E : Int} {W w' : World} {e : Ending} (h0 : E ≠ 0) (h : LkBad E W e w') : LkSay L S n F E W e w' := by
  obtain ⟨rfl, hb⟩ := h
  exact ⟨0, 0, 0, none, 0, rfl, ⟨fun h => absurd h h0, fun _ => ⟨rfl, rfl, rfl⟩⟩, hb⟩
theorem LkSay.of_ok {L S n : Nat} {F : Nat → Nat × Nat} {W w' : World} {e : Ending} (h : FdPost4 L S n F W e w') : LkSay L S n F 0 W e w' := by
  obtain ⟨q, c, rfl, ho, -, hb⟩ := h
  exact ⟨L, S, n, q, c, rfl, ⟨fun _ => ⟨rfl, rfl, rfl, ho⟩, fun h => absurd rfl h⟩, hb⟩
theorem look_det {L S : Int} {n : Nat} {f : Nat → Nat × Nat} {b0 b1 E : Int} (hl : n ≤ 100000) (hw : Wide64 n f) (hE : lkE L S n f b0 b1 = E) (W : World) (a : Option Addr) (cap : Nat) (hd : FldAt W L S n f a) :
    Calls Tryz.prog 49 #[.agg #[.int .i64 L, .int .i64 S, .slice a n cap], .agg #[.int .i64 b0, .int .i64 b1]] W (LkSay (lkL L b0) (lkL S b1) (lkL L b0 * lkL S b1) (nmF (lkF f S b0 b1)) E W) := by
  by_cases h0 : E = 0
  · subst h0
    exact (look_fine hl hw hE W a cap hd).mono fun e w' h => LkSay.of_ok h
  · exact (look_err hl hw hE h0 W a cap hd).mono fun e w' h => LkSay.of_bad h0 h
theorem rlook_det {L S : Int} {n : Nat} {f : Nat → Nat × Nat} {b0 b1 E : Int} (hw : Wide64 n f) (hf : (fldE L S n f).2 = 0) (hE : lkE L S n f b0 b1 = E) (W : World) (a : Option Addr) (cap : Nat) (hd : FldAt W L S n f a) :
    Calls Tryz.prog 52 #[.agg #[.int .i64 L, .int .i64 S, .slice a n cap], .agg #[.int .i64 b0, .int .i64 b1]] W (LkSay (lkL L b0) (lkL S b1) (lkL L b0 * lkL S b1) (nmF (lkF f S b0 b1)) E W) := by
  by_cases h0 : E = 0
  · subst h0
    exact (rlook_fine hw hE W a cap hd).mono fun e w' h => LkSay.of_ok h
  · exact (rlook_err hw hf hE h0 W a cap hd).mono fun e w' h => LkSay.of_bad h0 h
theorem LdSay.congr {W : World} {B : Nat} {L S : Int} {n : Nat} {F G : Nat → Nat × Nat} {E : Int} {l s : Int} {k : Nat} {a : Option Addr} (h : LdSay W B L S n F E l s k a) (hF : ∀ i, i < n → F i = G i) : LdSay W B L S n G E l s k a :=
  ⟨fun e => by
    obtain ⟨h1, h2, h3, h4⟩ := h.ok e
    refine ⟨h1, h2, h3, fun hp => ?_⟩
    obtain ⟨g, q1, q2, q3, q4⟩ := h4 hp
    exact ⟨g, q1, q2, q3, fun i hi => by rw [← hF i hi]; exact q4 i hi⟩, h.bad⟩
theorem phases_det {L S : Int} {n : Nat} {f : Nat → Nat × Nat} {E : Int} (hl : n ≤ 100000) (hw : Wide64 n f) (hE : (fldE L S n f).2 = E) (W : World) (a : Option Addr) (cap : Nat) (hd : FldAt W L S n f a) :
    Calls Tryz.prog 50 #[.agg #[.int .i64 L, .int .i64 S, .slice a n cap]] W fun e w' => ∃ r c k q cc, e = .returned (.tuple #[.agg #[.int .i64 r, .int .i64 c, .slice q k cc], .int .i64 E]) ∧ MkSay w' W.heap.size L S n ((List.range n).map (phsP (xD f) (yD f))) E r c k q cc ∧ Below W.heap.size W w' := by
  by_cases h0 : E = 0
  · subst h0
    refine (phasesOf_ok L S n cap f a W hd hw hl hE).mono ?_
    rintro e w' ⟨q, c, rfl, ho, hb⟩
    exact ⟨_, _, _, q, c, rfl, ⟨fun _ => ⟨rfl, rfl, rfl, ho⟩, fun h => absurd rfl h⟩, hb⟩
  · refine (phasesOf_bad L S n cap f a W hl hd hw hE h0).mono ?_
    rintro e w' ⟨rfl, hb⟩
    exact ⟨0, 0, 0, none, 0, rfl, ⟨fun h => absurd h h0, fun _ => ⟨rfl, rfl, rfl⟩⟩, hb⟩
/-- A field that is copied. -/
def FcPost (L S : Int) (n : Nat) (f : Nat → Nat × Nat) (w : World) (e : Ending) (w' : World) : Prop :=
  ∃ a c, e = .returned (.agg #[.int .i64 L, .int .i64 S, .slice a n c]) ∧ OwnS w' w.heap.size n f a ∧ Below w.heap.size w w'
theorem ints_zero2 (W : World) (q : Option Addr) (cc : Nat) : IntsV W (.slice q 0 cc) [] := ⟨by simp, q, cc, rfl, fun h => absurd h (by simp)⟩
theorem mk_same2 {W : World} {B B' : Nat} {R C : Int} {n : Nat} {L : List Int} {E r c : Int} {k cc : Nat} {q : Option Addr} {r' c' : Int} {k' cc' : Nat} {q' : Option Addr} (h : MkSay W B R C n L E r c k q cc) (h' : MkSay W B' R C n L E r' c' k' q' cc') :
    Calls Tryz.prog 25 #[.agg #[.int .i64 r, .int .i64 c, .slice q k cc], .agg #[.int .i64 r', .int .i64 c', .slice q' k' cc']] W fun e w' => e = .returned (.bool true) ∧ Below W.heap.size W w' := by
  by_cases h0 : E = 0
  · obtain ⟨rfl, rfl, rfl, ho⟩ := h.1 h0
    obtain ⟨rfl, rfl, rfl, ho'⟩ := h'.1 h0
    exact bSamePhases _ _ _ _ _ _ _ _ W ho.ints ho'.ints (by simp)
  · obtain ⟨rfl, rfl, rfl⟩ := h.2 h0
    obtain ⟨rfl, rfl, rfl⟩ := h'.2 h0
    exact bSamePhases 0 0 0 0 [] [] _ _ W (ints_zero2 W _ _) (ints_zero2 W _ _) (by decide)
theorem cvF_at {f : Nat → Nat × Nat} {n j : Nat} {u : Value} (h : (cvF f n)[j]? = some u) : j < n ∧ u = .complex .f64 (f j).1 (f j).2 := by
  unfold cvF at h
  rw [List.getElem?_map] at h
  rcases (show j < n ∨ n ≤ j by omega) with hj | hj
  · rw [List.getElem?_range hj] at h
    exact ⟨hj, (Option.some.inj h).symm⟩
  · rw [List.getElem?_eq_none (by simpa using hj)] at h
    cases h
set_option maxRecDepth 20000 in
set_option maxHeartbeats 2000000 in
theorem copyFd_some (R C : Int) (n : Nat) (f : Nat → Nat × Nat) (b off cap : Nat) (w : World) (hl : n ≤ 1000000000) (hp : 0 < n) (hbw : b < w.heap.size) (hc : SumsAt w b off n f) :
    Calls Tryz.prog 54 #[.agg #[.int .i64 R, .int .i64 C, .slice (some ⟨b, off, none⟩) n cap]] w (FcPost R C n f w) := by
  obtain ⟨i0, hi, hz0, hz1, hz2⟩ := info_parts infoC
  have HC := Lib.hid (show ∀ W, Below w.heap.size w W → ∀ j u, (cvF f n)[j]? = some u → W.cell? ((⟨b, off, none⟩ : Addr).add j) = some u from fun W hW j u hu => by
    obtain ⟨h1, rfl⟩ := cvF_at hu
    have e : (⟨b, off, none⟩ : Addr).add j = ⟨b, off + j, none⟩ := by simp [Addr.add] <;> omega
    rw [e]
    exact (hW.cell (p := ⟨b, off + j, none⟩) hbw).trans (hc j h1))
  clear hc
  go_enter Tryz.func54, Tryz.ntmps54
  go_wp2_with (at_builtin; refine wpList_append_own _ rfl _ _ 26 rfl (w.heap.size + 2) 120 i0 (.complex .f64 0 0) 1 16 Tryz.underlying26 hi hz0 hz1 hz2 rfl (by decide) _ 0 [] rfl (ownsRow_new1 _ _ _ _ (by simp) (by simp <;> omega)) ⟨b, off, none⟩ n cap (cvF f n) rfl ?c1 ?c2 ?c3 ?c4 ?c5 ?c6 ?_)
  case c1 => first | rfl | (simp [cvF])
  case c2 => exact HC.out _ (by (repeat' (first | with_reducible exact Below.refl _ _ | (with_reducible refine below_later_of ?_ ?_ _) | (with_reducible refine Below.alloc ?_ ?_ _) | (with_reducible refine Below.setCell ?_ ?_ _) | (with_reducible refine Below.drew ?_) | (simp; done) | (simp; omega) | omega)))
  case c3 => intro u hu; unfold cvF at hu; simp at hu; obtain ⟨z, _, rfl⟩ := hu; rfl
  case c4 => unfold maxLen; omega
  case c5 => omega
  case c6 => simp <;> omega
  intro v' w1 hown hgrow _
  have hown2 : w1.ownsRow (w.heap.size + 2) 120 1 v' n (cvF f n) := by simpa using hown
  obtain ⟨g, c, rfl⟩ := row_slice hown2 hp
  have HPV := Lib.hid (ownS_row hown2)
  have HB := Lib.hid (show Below w.heap.size w w1 from (show Below w.heap.size w _ from (by (repeat' (first | with_reducible exact Below.refl _ _ | (with_reducible refine below_later_of ?_ ?_ _) | (with_reducible refine Below.alloc ?_ ?_ _) | (with_reducible refine Below.setCell ?_ ?_ _) | (with_reducible refine Below.drew ?_) | (simp; done) | (simp; omega) | omega)))).grown hgrow (by simp; omega) (fun g hg => by simp [Value.ownBlock] at hg; omega))
  have hcell : ∀ i j, i < w.heap.size + 1 + 1 → w1.cell? ⟨i, j, none⟩ = _ := fun i j hi => World.cell?_of_block (hgrow.block i (by simp; omega) (fun e => by simp [Value.ownBlock] at e; omega))
  have c0 : w1.cell? ⟨w.heap.size, 0, none⟩ = some (.int .i64 R) := (hcell _ _ (by omega)).trans (by (first | (simp [go_sem]; done) | simp [go_sem, ↓IntWalk.iteOmega]))
  have c1 : w1.cell? ⟨w.heap.size, 1, none⟩ = some (.int .i64 C) := (hcell _ _ (by omega)).trans (by (first | (simp [go_sem]; done) | simp [go_sem, ↓IntWalk.iteOmega]))
  have c2 : w1.cell? ⟨w.heap.size, 2, none⟩ = some (.slice (some ⟨b, off, none⟩) n cap) := (hcell _ _ (by omega)).trans (by (first | (simp [go_sem]; done) | simp [go_sem, ↓IntWalk.iteOmega]))
  have d0 : w1.cell? ⟨w.heap.size + 1, 0, none⟩ = some (.int .i64 0) := (hcell _ _ (by omega)).trans (by (first | (simp [go_sem]; done) | simp [go_sem, ↓IntWalk.iteOmega]))
  have d1 : w1.cell? ⟨w.heap.size + 1, 1, none⟩ = some (.int .i64 0) := (hcell _ _ (by omega)).trans (by (first | (simp [go_sem]; done) | simp [go_sem, ↓IntWalk.iteOmega]))
  have d2 : w1.cell? ⟨w.heap.size + 1, 2, none⟩ = some (.slice none 0 0) := (hcell _ _ (by omega)).trans (by (first | (simp [go_sem]; done) | simp [go_sem, ↓IntWalk.iteOmega]))
  have hfro : ∀ i j, i < w.heap.size + 1 + 1 → w1.frozen? ⟨i, j, none⟩ = _ := fun i j hi => frozenF_of_block (hgrow.block i (by simp; omega) (fun e => by simp [Value.ownBlock] at e; omega))
  have f2 : w1.frozen? ⟨w.heap.size, 2, none⟩ = false := (hfro _ _ (by omega)).trans (by (first | (simp [go_sem]; done) | simp [go_sem, ↓IntWalk.iteOmega]))
  have g0 : w1.frozen? ⟨w.heap.size + 1, 0, none⟩ = false := (hfro _ _ (by omega)).trans (by (first | (simp [go_sem]; done) | simp [go_sem, ↓IntWalk.iteOmega]))
  have g1 : w1.frozen? ⟨w.heap.size + 1, 1, none⟩ = false := (hfro _ _ (by omega)).trans (by (first | (simp [go_sem]; done) | simp [go_sem, ↓IntWalk.iteOmega]))
  have g2 : w1.frozen? ⟨w.heap.size + 1, 2, none⟩ = false := (hfro _ _ (by omega)).trans (by (first | (simp [go_sem]; done) | simp [go_sem, ↓IntWalk.iteOmega]))
  have hsz := hgrow.size
  simp at hsz
  clear hown hown2 hgrow hcell hfro
  go_wp2
  refine bodyPost_ret (v := .agg #[.int .i64 R, .int .i64 C, .slice (some ⟨g, 0, none⟩) n c]) (by (first | (simp [results, Tryz.results54, go_sem, d0, d1, d2]; done) | simp [results, Tryz.results54, go_sem, d0, d1, d2, ↓IntWalk.iteOmega])) rfl ⟨_, _, rfl, OwnS.mono (OwnS.set (OwnS.set (OwnS.set (OwnS.set HPV.out (by simp <;> omega) _) (by simp <;> omega) _) (by simp <;> omega) _) (by simp <;> omega) _) (by omega), ?_⟩
  exact (((HB.out.setCell (p := ⟨w.heap.size, 2, none⟩) (Nat.le_refl _) _).setCell (p := ⟨w.heap.size + 1, 0, none⟩) (by simp) _).setCell (p := ⟨w.heap.size + 1, 1, none⟩) (by simp) _).setCell (p := ⟨w.heap.size + 1, 2, none⟩) (by simp) _
end Go.Proofs.YtfiioadmpjmmgaaGreatDoor
