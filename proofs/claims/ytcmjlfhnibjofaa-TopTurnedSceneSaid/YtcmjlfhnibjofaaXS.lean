import Derived.Test.YtcmjlfhnibjofaaXM
import Derived.Test.YtcmjlfhnibjofaaXO
import Derived.Test.YtcmjlfhnibjofaaZO
import Derived.Test.YtcmjlfhnibjofaaXP
import Derived.Test.YtcmjlfhnibjofaaZV
import Derived.Test.YtcmjlfhnibjofaaXQ
import Derived.Test.YtcmjlfhnibjofaaXB
import Derived.Test.YtcmjlfhnibjofaaXF
/- Chapter 4: grids of integers. -/
namespace Go.Proofs.Ytcmjlfhnibjofaa
set_option linter.unusedVariables false
set_option linter.unusedSimpArgs false
open Go.RowKit Ieee Ntt
def inC (F : Nat → Int) (n : Nat) : List Value := (List.range n).map fun i => .int .i64 (F i)
theorem inC_succ (F : Nat → Int) (n : Nat) : inC F (n + 1) = inC F n ++ [.int .i64 (F n)] := by unfold inC; rw [List.range_succ, List.map_append]; rfl
/-- A grid of integers that is returned. -/
def GiPost (L S n : Nat) (F : Nat → Int) (w : World) (e : Ending) (w' : World) : Prop :=
  ∃ a c, e = .returned (.agg #[.int .i64 L, .int .i64 S, .slice a n c]) ∧ OwnIV w.heap.size w' (.slice a n c) ((List.range n).map F) ∧ Below w.heap.size w w'
end Go.Proofs.Ytcmjlfhnibjofaa

/- Chapter 4: the phases of a field. -/
namespace Go.Proofs.Ytcmjlfhnibjofaa
set_option linter.unusedVariables false
set_option linter.unusedSimpArgs false
open Go.RowKit Ieee Ntt
theorem partD_more {a b : Nat} {m M : Int} (h : partD a b m = 0) (hm : m ≤ M) : partD a b M = 0 := by
  unfold partD at h ⊢
  split at h
  · rename_i h1
    rw [if_pos h1]
    split at h
    · rename_i h2
      simp only [Bool.and_eq_true] at h2
      have a1 := inE_iff.1 h2.1
      have a2 := inE_iff.1 h2.2
      rw [if_pos (by rw [Bool.and_eq_true]; exact ⟨inE_iff.2 (by omega), inE_iff.2 (by omega)⟩)]
    · exact absurd h (by decide)
  · exact absurd h (by decide)
/-- The phase of a number of a field. -/
def phsP (X Y : Nat → Int) (i : Nat) : Int := if X i = 0 ∧ Y i = 0 then 1000000000000 else phaseP (X i) (Y i)
theorem phs_num {f : Nat → Nat × Nat} {k : Nat} (h : gD f 1000000000 k = 0) : phE (f k).1 (f k).2 = (if xD f k = 0 ∧ yD f k = 0 then 31 else 0) ∧ (phE (f k).1 (f k).2 = 0 → phV (f k).1 (f k).2 = phaseP (xD f k) (yD f k)) := by
  have hp : partD (f k).1 (f k).2 100000000000 = 0 := partD_more h (by decide)
  refine ⟨by unfold phE; rw [if_pos hp]; rfl, fun h0 => by unfold phV; rw [if_pos h0]; rfl⟩
set_option maxHeartbeats 1000000 in
theorem phasesOf_bad (L S : Int) (n cap : Nat) (f : Nat → Nat × Nat) (a : Option Addr) (w : World) (hl : n ≤ 100000) (hd : FldAt w L S n f a) (hw : Wide64 n f) {e0 : Int} (he : (fldE L S n f).2 = e0) (h0 : e0 ≠ 0) :
    Calls Try.prog 32 #[.agg #[.int .i64 L, .int .i64 S, .slice a n cap]] w fun e w' => e = .returned (.tuple #[.agg #[.int .i64 0, .int .i64 0, .slice none 0 0], .int .i64 e0]) ∧ Below w.heap.size w w' := by
  have HFE := Lib.hid (show ∀ W, Below w.heap.size w W → _ from fun W hW => fFieldErr L S n cap f a W hl (hd.below hW) hw he)
  have hne : (e0 != 0) = true := by simpa using h0
  clear hd he h0
  go_enter Try.func32, Try.ntmps32
  go_wp2_with (first | (go_at_call 83; (with_reducible refine (HFE.out _ (by (repeat' (first | with_reducible exact Below.refl _ _ | (with_reducible refine below_later_of ?_ ?_ _) | (with_reducible refine Below.alloc ?_ ?_ _) | (with_reducible refine Below.setCell ?_ ?_ _) | (with_reducible refine Below.drew ?_) | (simp; done) | (simp; omega) | omega)))).mono ?_); rintro e w' ⟨rfl, hb⟩; obtain ⟨pe, rfl⟩ := later_of_below hb; clear hb))
  refine bodyPost_ret ?_ rfl ⟨rfl, (by (repeat' (first | with_reducible exact Below.refl _ _ | (with_reducible refine below_later_of ?_ ?_ _) | (with_reducible refine Below.alloc ?_ ?_ _) | (with_reducible refine Below.setCell ?_ ?_ _) | (with_reducible refine Below.drew ?_) | (simp; done) | (simp; omega) | omega)))⟩
  first | (simp [results, Try.results32, go_sem]; done) | simp [results, Try.results32, go_sem, ↓IntWalk.iteOmega]
set_option maxRecDepth 20000 in
set_option maxHeartbeats 4000000 in
theorem phasesOf_ok (L S : Int) (n cap : Nat) (f : Nat → Nat × Nat) (a : Option Addr) (w : World) (hd : FldAt w L S n f a) (hw : Wide64 n f) (hl : n ≤ 100000) (he : (fldE L S n f).2 = 0) :
    Calls Try.prog 32 #[.agg #[.int .i64 L, .int .i64 S, .slice a n cap]] w fun e w' => ∃ q c, e = .returned (.tuple #[.agg #[.int .i64 L, .int .i64 S, .slice q n c], .int .i64 0]) ∧ OwnIV w.heap.size w' (.slice q n c) ((List.range n).map (phsP (xD f) (yD f))) ∧ Below w.heap.size w w' := by
  obtain ⟨i0, hi0, hz0, hz1, hz2⟩ := info_parts info3
  have HFE := Lib.hid (show ∀ W, Below w.heap.size w W → _ from fun W hW => fFieldErr L S n cap f a W hl (hd.below hW) hw he)
  obtain ⟨s1, g1⟩ := fldE_zero he
  obtain ⟨⟨hL1, hL⟩, ⟨hS1, hS⟩, hn⟩ := sizeE_okU s1
  obtain ⟨b, off, rfl, hbw, hf⟩ := hd s1
  have hn5 : n ≤ 5000 := by
    have := Int.mul_le_mul hL hS (by omega) (by decide)
    omega
  have HG := Lib.hid g1
  have HF := Lib.hid hf
  have HWI := Lib.hid hw
  obtain ⟨P, hP⟩ : ∃ P, phsP (xD f) (yD f) = P := ⟨_, rfl⟩
  have HPP := Lib.hid (show ∀ i, P i = if xD f i = 0 ∧ yD f i = 0 then 1000000000000 else phaseP (xD f i) (yD f i) from fun i => by rw [← hP]; rfl)
  rw [hP]
  clear hd he s1 g1 hf hw hP
  go_enter Try.func32, Try.ntmps32
  go_wp2_with (first | (go_at_call 83; (with_reducible refine (HFE.out _ (by (repeat' (first | with_reducible exact Below.refl _ _ | (with_reducible refine below_later_of ?_ ?_ _) | (with_reducible refine Below.alloc ?_ ?_ _) | (with_reducible refine Below.setCell ?_ ?_ _) | (with_reducible refine Below.drew ?_) | (simp; done) | (simp; omega) | omega)))).mono ?_); rintro e w' ⟨rfl, hb⟩; obtain ⟨pe, rfl⟩ := later_of_below hb; clear hb))
  obtain ⟨O, hO⟩ : ∃ O, O = w.heap.size + 1 + 1 + pe.os.size := ⟨_, rfl⟩
  refine any_worldF (fun W => ∃ W1, Below w.heap.size w W1 ∧ W1.heap.size = w.heap.size + 1 ∧ W1.cell? ⟨w.heap.size, 2, none⟩ = some (.slice (some ⟨b, off, none⟩) n cap) ∧ TriN W1 (w.heap.size + 1) O L S 3 1 (.slice none 0 0) 0 (inC P 0) W)
    ⟨w.alloc (.cells #[.int .i64 L, .int .i64 S, .slice (some ⟨b, off, none⟩) n cap] 79), (by (repeat' (first | with_reducible exact Below.refl _ _ | (with_reducible refine below_later_of ?_ ?_ _) | (with_reducible refine Below.alloc ?_ ?_ _) | (with_reducible refine Below.setCell ?_ ?_ _) | (with_reducible refine Below.drew ?_) | (simp; done) | (simp; omega) | omega))), by simp, by simp [go_sem], by rw [hO]; (first | (simp [go_sem]; done) | simp [go_sem, ↓IntWalk.iteOmega]), by rw [hO]; (first | (simp [go_sem]; done) | simp [go_sem, ↓IntWalk.iteOmega]), by rw [hO]; (first | (simp [go_sem]; done) | simp [go_sem, ↓IntWalk.iteOmega]), by rw [hO]; (first | (simp [go_sem]; done) | simp [go_sem, ↓IntWalk.iteOmega]), by (first | (simp [go_sem]; done) | simp [go_sem, ↓IntWalk.iteOmega]), by (first | (simp [go_sem]; done) | simp [go_sem, ↓IntWalk.iteOmega]), by (first | (simp [go_sem]; done) | simp [go_sem, ↓IntWalk.iteOmega]), by (first | (simp [go_sem]; done) | simp [go_sem, ↓IntWalk.iteOmega]), by (first | (simp [go_sem]; done) | simp [go_sem, ↓IntWalk.iteOmega]), by (first | (simp [go_sem]; done) | simp [go_sem, ↓IntWalk.iteOmega]), World.ownsRow_nil _ _ _ _, (by (repeat' (first | with_reducible exact Below.refl _ _ | (with_reducible refine below_later_of ?_ ?_ _) | (with_reducible refine Below.alloc ?_ ?_ _) | (with_reducible refine Below.setCell ?_ ?_ _) | (with_reducible refine Below.drew ?_) | (simp; done) | (simp; omega) | omega))), by rw [hO]; simp, by omega⟩ ?_
  rintro W2 ⟨W1, hb1, hsz1, q2, hst⟩
  simp only [← hO]
  have HST := Lib.hid hst
  have HB1 := Lib.hid hb1
  have Q2 := Lib.hid q2
  have k2 := (hst.bel.cell (p := ⟨w.heap.size, 2, none⟩) (Nat.lt_succ_self _)).trans q2
  have hwO : w.heap.size + 1 < O := by omega
  clear hst hb1 q2 hO
  go_wp2
  go_loopw [24] (fun ii wr => ∃ (k : Nat) (v : Value), k ≤ n ∧ ii = .int .i64 k ∧ TriN W1 (w.heap.size + 1) O L S 3 1 v k (inC P k) wr) (fun ii _ => n - (intOf ii).toNat)
  case atStart => exact ⟨0, _, Nat.zero_le _, rfl, HST.out⟩
  case round =>
    clear k2
    obtain ⟨k, v, hk, rfl, hst⟩ := hrel
    have HS2 := Lib.hid hst
    by_cases hlt : k < n
    · have hdk : decide ((k : Int) < (n : Int)) = true := by simp; omega
      have hk0 : (0 : Int) ≤ (k : Int) := by omega
      have hk1 : (k : Int) < (n : Int) := by omega
      have hbw2 := HB1.out.trans (hst.bel.mono (Nat.le_succ _))
      have ck := (hbw2.cell (p := ⟨b, off + k, none⟩) hbw).trans (HF.out k hlt)
      have hbr : b < wr.heap.size := by have := hbw2.size; omega
      have hltO := hst.lt
      obtain ⟨t1, t2⟩ := phs_num (HG.out k hlt)
      have HPH := Lib.hid (fun w => PhaseOf_any (f k).1 (f k).2 w (HWI.out k hlt).1 (HWI.out k hlt).2 rfl rfl)
      have hsn := inC_succ P k
      obtain ⟨p, hp⟩ : ∃ p, P k = p := ⟨_, rfl⟩
      rw [hp] at hsn
      have HPN := Lib.hid hsn
      have hpk := HPP.out k
      rw [hp] at hpk
      by_cases hz : xD f k = 0 ∧ yD f k = 0
      · rw [if_pos hz] at t1 hpk
        have hd1 : ((31 : Int) != 0) = true := by decide
        subst hpk
        rw [t1] at HPH
        generalize phV (f k).1 (f k).2 = pv at *
        generalize (f k).1 = fa at *
        generalize (f k).2 = fb at *
        clear hst hbw2 hsn hp t1 t2 hz
        go_wp2_with (first | (go_at_call 89; (with_reducible refine (HPH.out _).mono ?_); rintro e w' ⟨rfl, hb⟩; have HS5 := Lib.hid (HS2.out.below hb); have c2 := HS5.out.c2; have f2 := HS5.out.f2; have hlt5 := HS5.out.lt; obtain ⟨p1, rfl⟩ := later_of_below hb; clear hb) | (at_builtin; refine wpList_append_own _ rfl _ _ 48 rfl (O + 1) 3 i0 (.int .i64 0) 1 8 Try.underlying48 hi0 hz0 hz1 hz2 rfl (by decide) _ _ _ rfl (HS5.out.own.alloc _) ⟨_, 0, none⟩ 1 1 [.int .i64 1000000000000] rfl rfl ?d1 ?d2 ?d3 ?d4 ?d5 ?_))
        case d1 => exact (by intro j u hj; rcases j with _ | j; (focus (simp at hj; subst hj; (first | (simp [Addr.add, go_sem]; done) | simp [Addr.add, go_sem, ↓IntWalk.iteOmega]))); (focus (simp at hj)))
        case d2 => intro u hu; simp at hu; subst hu; rfl
        case d3 => unfold maxLen; omega
        case d4 => omega
        case d5 => first | omega | (simp; omega)
        intro v' w1 hown' hgrow _
        obtain ⟨va, vc, rfl⟩ := own_slice2 hown'
        have HN2 := Lib.hid (HS5.out.put hown' hgrow)
        obtain ⟨hcb, hfb⟩ := HS5.out.still hgrow
        clear hown' hgrow
        go_wp2
        go_roundw
        case rel => exact ⟨k + 1, _, by omega, by go_num, by rw [HPN.out]; exact HN2.out⟩
        case measure => simp [intOf]; omega
      · rw [if_neg hz] at t1 hpk
        rw [t1] at HPH
        rw [t2 t1, ← hpk] at HPH
        generalize (f k).1 = fa at *
        generalize (f k).2 = fb at *
        clear hst hbw2 hsn hp t1 t2 hz hpk
        go_wp2_with (first | (go_at_call 89; (with_reducible refine (HPH.out _).mono ?_); rintro e w' ⟨rfl, hb⟩; have HS5 := Lib.hid (HS2.out.below hb); have c2 := HS5.out.c2; have f2 := HS5.out.f2; have hlt5 := HS5.out.lt; obtain ⟨p1, rfl⟩ := later_of_below hb; clear hb) | (at_builtin; refine wpList_append_own _ rfl _ _ 48 rfl (O + 1) 3 i0 (.int .i64 0) 1 8 Try.underlying48 hi0 hz0 hz1 hz2 rfl (by decide) _ _ _ rfl (HS5.out.own.alloc _) ⟨_, 0, none⟩ 1 1 [.int .i64 p] rfl rfl ?d1 ?d2 ?d3 ?d4 ?d5 ?_))
        case d1 => exact (by intro j u hj; rcases j with _ | j; (focus (simp at hj; subst hj; (first | (simp [Addr.add, go_sem]; done) | simp [Addr.add, go_sem, ↓IntWalk.iteOmega]))); (focus (simp at hj)))
        case d2 => intro u hu; simp at hu; subst hu; rfl
        case d3 => unfold maxLen; omega
        case d4 => omega
        case d5 => first | omega | (simp; omega)
        intro v' w1 hown' hgrow _
        obtain ⟨va, vc, rfl⟩ := own_slice2 hown'
        have HN2 := Lib.hid (HS5.out.put hown' hgrow)
        obtain ⟨hcb, hfb⟩ := HS5.out.still hgrow
        clear hown' hgrow
        go_wp2
        go_roundw
        case rel => exact ⟨k + 1, _, by omega, by go_num, by rw [HPN.out]; exact HN2.out⟩
        case measure => simp [intOf]; omega
    · obtain rfl : k = n := by omega
      have hdk : decide ((k : Int) < (k : Int)) = false := by simp
      obtain ⟨a', c', rfl⟩ := own_slice2 hst.own
      obtain ⟨e0', e1, e2, -, r0, r1', r2', g0, g1, g2, hown, hbel, -, hro⟩ := hst
      have HOW := Lib.hid hown
      have HBE := Lib.hid (HB1.out.trans (hbel.mono (by omega)))
      clear hown hbel
      go_wp2
      refine bodyPost_ret (v := .tuple #[.agg #[.int .i64 L, .int .i64 S, .slice a' k c'], .int .i64 0]) ?_ rfl ⟨a', c', rfl, ?_, HBE.out.trans (by (repeat' (first | with_reducible exact Below.refl _ _ | (with_reducible refine below_later_of ?_ ?_ _) | (with_reducible refine Below.alloc ?_ ?_ _) | (with_reducible refine Below.setCell ?_ ?_ _) | (with_reducible refine Below.drew ?_) | (simp; done) | (simp; omega) | omega)))⟩
      · first | (simp [results, Try.results32, go_sem, r0, r1', r2']; done) | simp [results, Try.results32, go_sem, r0, r1', r2', ↓IntWalk.iteOmega]
      · have h0 := siR_own (l := (List.range k).map P) (by rw [List.map_map]; exact HOW.out) (by simp) (by omega)
        refine OwnIV.mono (OwnIV.set (OwnIV.set (OwnIV.set h0 ?_ _) ?_ _) ?_ _) ?_
        all_goals first | omega | (simp <;> omega)
end Go.Proofs.Ytcmjlfhnibjofaa

/- Chapter 4: the reference's phases of a field. -/
namespace Go.Proofs.Ytcmjlfhnibjofaa
set_option linter.unusedVariables false
set_option linter.unusedSimpArgs false
open Go.RowKit Ieee Ntt
end Go.Proofs.Ytcmjlfhnibjofaa

/- Chapter 4: what Looked and the phases of a field say; copies of fields. -/
namespace Go.Proofs.Ytcmjlfhnibjofaa
set_option linter.unusedVariables false
set_option linter.unusedSimpArgs false
open Go.RowKit Ieee Ntt
/-- What Looked says of a field: a field, or nothing. -/
structure LdSay (W : World) (B : Nat) (L S : Int) (n : Nat) (F : Nat → Nat × Nat) (E : Int) (l s : Int) (k : Nat) (a : Option Addr) : Prop where
  ok : E = 0 → l = L ∧ s = S ∧ k = n ∧ OwnS W B n F a
  bad : E ≠ 0 → l = 0 ∧ s = 0 ∧ k = 0
theorem LdSay.sum {W : World} {B : Nat} {L S : Int} {n : Nat} {F : Nat → Nat × Nat} {E : Int} {l s : Int} {k c : Nat} {a : Option Addr} (h : LdSay W B L S n F E l s k a) (hn : n ≤ 100000) : SumV W (.slice a k c) k F := by
  by_cases h0 : E = 0
  · obtain ⟨-, -, rfl, ho⟩ := h.ok h0
    exact ⟨hn, a, c, rfl, fun hp => by obtain ⟨g, h1, -, h3, h4⟩ := ho hp; exact ⟨g, 0, h1, h3, h4⟩⟩
  · obtain ⟨-, -, rfl⟩ := h.bad h0
    exact ⟨by decide, a, c, rfl, fun hp => absurd hp (by decide)⟩
theorem LdSay.below {W W' : World} {B : Nat} {L S : Int} {n : Nat} {F : Nat → Nat × Nat} {E : Int} {l s : Int} {k : Nat} {a : Option Addr} (h : LdSay W B L S n F E l s k a) (hb : Below W.heap.size W W') : LdSay W' B L S n F E l s k a :=
  ⟨fun e => by
    obtain ⟨h1, h2, h3, h4⟩ := h.ok e
    exact ⟨h1, h2, h3, fun hp => by obtain ⟨g, q1, q2, q3, q4⟩ := h4 hp; exact ⟨g, q1, q2, by have := hb.size; omega, q4.below q3 hb⟩⟩, h.bad⟩
theorem LdSay.set {W : World} {B : Nat} {L S : Int} {n : Nat} {F : Nat → Nat × Nat} {E : Int} {l s : Int} {k : Nat} {a : Option Addr} (h : LdSay W B L S n F E l s k a) {p : Addr} (hp : p.block < B) (v : Value) : LdSay (W.setCell p v) B L S n F E l s k a :=
  ⟨fun e => by
    obtain ⟨h1, h2, h3, h4⟩ := h.ok e
    exact ⟨h1, h2, h3, OwnS.set h4 hp v⟩, h.bad⟩
theorem ld_none {W : World} {L S : Int} {n : Nat} {F : Nat → Nat × Nat} {E : Int} (h : E ≠ 0) : LdSay W 0 L S n F E 0 0 0 none := ⟨fun e => absurd e h, fun _ => ⟨rfl, rfl, rfl⟩⟩

def LkSay (L S : Int) (n : Nat) (F : Nat → Nat × Nat) (E : Int) (W : World) (e : Ending) (w' : World) : Prop :=
  ∃ l s k q c, e = .returned (.tuple #[.agg #[.int .i64 l, .int .i64 s, .slice q k c], .int .i64 E]) ∧ LdSay w' W.heap.size L S n F E l s k q ∧ Below W.heap.size W w'
theorem LkSay.of_bad {L S : Int} {n : Nat} {F : Nat → Nat × Nat} {E : Int} {W w' : World} {e : Ending} (h0 : E ≠ 0) (h : LkBad E W e w') : LkSay L S n F E W e w' := by
  obtain ⟨rfl, hb⟩ := h
  exact ⟨0, 0, 0, none, 0, rfl, ⟨fun h => absurd h h0, fun _ => ⟨rfl, rfl, rfl⟩⟩, hb⟩
theorem LkSay.of_ok {L S n : Nat} {F : Nat → Nat × Nat} {W w' : World} {e : Ending} (h : FdPost4 L S n F W e w') : LkSay L S n F 0 W e w' := by
  obtain ⟨q, c, rfl, ho, -, hb⟩ := h
  exact ⟨L, S, n, q, c, rfl, ⟨fun _ => ⟨rfl, rfl, rfl, ho⟩, fun h => absurd rfl h⟩, hb⟩
theorem look_det {L S : Int} {n : Nat} {f : Nat → Nat × Nat} {b0 b1 E : Int} (hl : n ≤ 100000) (hw : Wide64 n f) (hE : lkE L S n f b0 b1 = E) (W : World) (a : Option Addr) (cap : Nat) (hd : FldAt W L S n f a) :
    Calls Try.prog 31 #[.agg #[.int .i64 L, .int .i64 S, .slice a n cap], .agg #[.int .i64 b0, .int .i64 b1]] W (LkSay (lkL L b0) (lkL S b1) (lkL L b0 * lkL S b1) (nmF (lkF f S b0 b1)) E W) := by
  by_cases h0 : E = 0
  · subst h0
    exact (look_fine hl hw hE W a cap hd).mono fun e w' h => LkSay.of_ok h
  · exact (look_err hl hw hE h0 W a cap hd).mono fun e w' h => LkSay.of_bad h0 h
theorem LdSay.congr {W : World} {B : Nat} {L S : Int} {n : Nat} {F G : Nat → Nat × Nat} {E : Int} {l s : Int} {k : Nat} {a : Option Addr} (h : LdSay W B L S n F E l s k a) (hF : ∀ i, i < n → F i = G i) : LdSay W B L S n G E l s k a :=
  ⟨fun e => by
    obtain ⟨h1, h2, h3, h4⟩ := h.ok e
    refine ⟨h1, h2, h3, fun hp => ?_⟩
    obtain ⟨g, q1, q2, q3, q4⟩ := h4 hp
    exact ⟨g, q1, q2, q3, fun i hi => by rw [← hF i hi]; exact q4 i hi⟩, h.bad⟩
theorem phases_det {L S : Int} {n : Nat} {f : Nat → Nat × Nat} {E : Int} (hl : n ≤ 100000) (hw : Wide64 n f) (hE : (fldE L S n f).2 = E) (W : World) (a : Option Addr) (cap : Nat) (hd : FldAt W L S n f a) :
    Calls Try.prog 32 #[.agg #[.int .i64 L, .int .i64 S, .slice a n cap]] W fun e w' => ∃ r c k q cc, e = .returned (.tuple #[.agg #[.int .i64 r, .int .i64 c, .slice q k cc], .int .i64 E]) ∧ MkSay w' W.heap.size L S n ((List.range n).map (phsP (xD f) (yD f))) E r c k q cc ∧ Below W.heap.size W w' := by
  by_cases h0 : E = 0
  · subst h0
    refine (phasesOf_ok L S n cap f a W hd hw hl hE).mono ?_
    rintro e w' ⟨q, c, rfl, ho, hb⟩
    exact ⟨_, _, _, q, c, rfl, ⟨fun _ => ⟨rfl, rfl, rfl, ho⟩, fun h => absurd rfl h⟩, hb⟩
  · refine (phasesOf_bad L S n cap f a W hl hd hw hE h0).mono ?_
    rintro e w' ⟨rfl, hb⟩
    exact ⟨0, 0, 0, none, 0, rfl, ⟨fun h => absurd h h0, fun _ => ⟨rfl, rfl, rfl⟩⟩, hb⟩
/-- A field that is copied. -/
def FcPost (L S : Int) (n : Nat) (f : Nat → Nat × Nat) (w : World) (e : Ending) (w' : World) : Prop :=
  ∃ a c, e = .returned (.agg #[.int .i64 L, .int .i64 S, .slice a n c]) ∧ OwnS w' w.heap.size n f a ∧ Below w.heap.size w w'
theorem ints_zero2 (W : World) (q : Option Addr) (cc : Nat) : IntsV W (.slice q 0 cc) [] := ⟨by simp, q, cc, rfl, fun h => absurd h (by simp)⟩
theorem cvF_at {f : Nat → Nat × Nat} {n j : Nat} {u : Value} (h : (cvF f n)[j]? = some u) : j < n ∧ u = .complex .f64 (f j).1 (f j).2 := by
  unfold cvF at h
  rw [List.getElem?_map] at h
  rcases (show j < n ∨ n ≤ j by omega) with hj | hj
  · rw [List.getElem?_range hj] at h
    exact ⟨hj, (Option.some.inj h).symm⟩
  · rw [List.getElem?_eq_none (by simpa using hj)] at h
    cases h
set_option maxRecDepth 20000 in
set_option maxHeartbeats 2000000 in
theorem copyFd_some (R C : Int) (n : Nat) (f : Nat → Nat × Nat) (b off cap : Nat) (w : World) (hl : n ≤ 1000000000) (hp : 0 < n) (hbw : b < w.heap.size) (hc : SumsAt w b off n f) :
    Calls Try.prog 33 #[.agg #[.int .i64 R, .int .i64 C, .slice (some ⟨b, off, none⟩) n cap]] w (FcPost R C n f w) := by
  obtain ⟨i0, hi, hz0, hz1, hz2⟩ := info_parts infoC
  have HC := Lib.hid (show ∀ W, Below w.heap.size w W → ∀ j u, (cvF f n)[j]? = some u → W.cell? ((⟨b, off, none⟩ : Addr).add j) = some u from fun W hW j u hu => by
    obtain ⟨h1, rfl⟩ := cvF_at hu
    have e : (⟨b, off, none⟩ : Addr).add j = ⟨b, off + j, none⟩ := by simp [Addr.add] <;> omega
    rw [e]
    exact (hW.cell (p := ⟨b, off + j, none⟩) hbw).trans (hc j h1))
  clear hc
  go_enter Try.func33, Try.ntmps33
  go_wp2_with (at_builtin; refine wpList_append_own _ rfl _ _ 77 rfl (w.heap.size + 2) 69 i0 (.complex .f64 0 0) 1 16 Try.underlying77 hi hz0 hz1 hz2 rfl (by decide) _ 0 [] rfl (ownsRow_new1 _ _ _ _ (by simp) (by simp <;> omega)) ⟨b, off, none⟩ n cap (cvF f n) rfl ?c1 ?c2 ?c3 ?c4 ?c5 ?c6 ?_)
  case c1 => first | rfl | (simp [cvF])
  case c2 => exact HC.out _ (by (repeat' (first | with_reducible exact Below.refl _ _ | (with_reducible refine below_later_of ?_ ?_ _) | (with_reducible refine Below.alloc ?_ ?_ _) | (with_reducible refine Below.setCell ?_ ?_ _) | (with_reducible refine Below.drew ?_) | (simp; done) | (simp; omega) | omega)))
  case c3 => intro u hu; unfold cvF at hu; simp at hu; obtain ⟨z, _, rfl⟩ := hu; rfl
  case c4 => unfold maxLen; omega
  case c5 => omega
  case c6 => simp <;> omega
  intro v' w1 hown hgrow _
  have hown2 : w1.ownsRow (w.heap.size + 2) 69 1 v' n (cvF f n) := by simpa using hown
  obtain ⟨g, c, rfl⟩ := row_slice hown2 hp
  have HPV := Lib.hid (ownS_row hown2)
  have HB := Lib.hid (show Below w.heap.size w w1 from (show Below w.heap.size w _ from (by (repeat' (first | with_reducible exact Below.refl _ _ | (with_reducible refine below_later_of ?_ ?_ _) | (with_reducible refine Below.alloc ?_ ?_ _) | (with_reducible refine Below.setCell ?_ ?_ _) | (with_reducible refine Below.drew ?_) | (simp; done) | (simp; omega) | omega)))).grown hgrow (by simp; omega) (fun g hg => by simp [Value.ownBlock] at hg; omega))
  have hcell : ∀ i j, i < w.heap.size + 1 + 1 → w1.cell? ⟨i, j, none⟩ = _ := fun i j hi => World.cell?_of_block (hgrow.block i (by simp; omega) (fun e => by simp [Value.ownBlock] at e; omega))
  have c0 : w1.cell? ⟨w.heap.size, 0, none⟩ = some (.int .i64 R) := (hcell _ _ (by omega)).trans (by (first | (simp [go_sem]; done) | simp [go_sem, ↓IntWalk.iteOmega]))
  have c1 : w1.cell? ⟨w.heap.size, 1, none⟩ = some (.int .i64 C) := (hcell _ _ (by omega)).trans (by (first | (simp [go_sem]; done) | simp [go_sem, ↓IntWalk.iteOmega]))
  have c2 : w1.cell? ⟨w.heap.size, 2, none⟩ = some (.slice (some ⟨b, off, none⟩) n cap) := (hcell _ _ (by omega)).trans (by (first | (simp [go_sem]; done) | simp [go_sem, ↓IntWalk.iteOmega]))
  have d0 : w1.cell? ⟨w.heap.size + 1, 0, none⟩ = some (.int .i64 0) := (hcell _ _ (by omega)).trans (by (first | (simp [go_sem]; done) | simp [go_sem, ↓IntWalk.iteOmega]))
  have d1 : w1.cell? ⟨w.heap.size + 1, 1, none⟩ = some (.int .i64 0) := (hcell _ _ (by omega)).trans (by (first | (simp [go_sem]; done) | simp [go_sem, ↓IntWalk.iteOmega]))
  have d2 : w1.cell? ⟨w.heap.size + 1, 2, none⟩ = some (.slice none 0 0) := (hcell _ _ (by omega)).trans (by (first | (simp [go_sem]; done) | simp [go_sem, ↓IntWalk.iteOmega]))
  have hfro : ∀ i j, i < w.heap.size + 1 + 1 → w1.frozen? ⟨i, j, none⟩ = _ := fun i j hi => frozenF_of_block (hgrow.block i (by simp; omega) (fun e => by simp [Value.ownBlock] at e; omega))
  have f2 : w1.frozen? ⟨w.heap.size, 2, none⟩ = false := (hfro _ _ (by omega)).trans (by (first | (simp [go_sem]; done) | simp [go_sem, ↓IntWalk.iteOmega]))
  have g0 : w1.frozen? ⟨w.heap.size + 1, 0, none⟩ = false := (hfro _ _ (by omega)).trans (by (first | (simp [go_sem]; done) | simp [go_sem, ↓IntWalk.iteOmega]))
  have g1 : w1.frozen? ⟨w.heap.size + 1, 1, none⟩ = false := (hfro _ _ (by omega)).trans (by (first | (simp [go_sem]; done) | simp [go_sem, ↓IntWalk.iteOmega]))
  have g2 : w1.frozen? ⟨w.heap.size + 1, 2, none⟩ = false := (hfro _ _ (by omega)).trans (by (first | (simp [go_sem]; done) | simp [go_sem, ↓IntWalk.iteOmega]))
  have hsz := hgrow.size
  simp at hsz
  clear hown hown2 hgrow hcell hfro
  go_wp2
  refine bodyPost_ret (v := .agg #[.int .i64 R, .int .i64 C, .slice (some ⟨g, 0, none⟩) n c]) (by (first | (simp [results, Try.results33, go_sem, d0, d1, d2]; done) | simp [results, Try.results33, go_sem, d0, d1, d2, ↓IntWalk.iteOmega])) rfl ⟨_, _, rfl, OwnS.mono (OwnS.set (OwnS.set (OwnS.set (OwnS.set HPV.out (by simp <;> omega) _) (by simp <;> omega) _) (by simp <;> omega) _) (by simp <;> omega) _) (by omega), ?_⟩
  exact (((HB.out.setCell (p := ⟨w.heap.size, 2, none⟩) (Nat.le_refl _) _).setCell (p := ⟨w.heap.size + 1, 0, none⟩) (by simp) _).setCell (p := ⟨w.heap.size + 1, 1, none⟩) (by simp) _).setCell (p := ⟨w.heap.size + 1, 2, none⟩) (by simp) _
end Go.Proofs.Ytcmjlfhnibjofaa
