/- Chapter 4: the phases of a field. -/
import Derived.Test.YtfiioadmpjmmgaaGreatDoorXO
import Derived.Test.YtfiioadmpjmmgaaGreatDoorXM
import Derived.Test.YtfiioadmpjmmgaaGreatDoorX71
import Derived.Test.YtfiioadmpjmmgaaGreatDoorZO
namespace Go.Proofs.YtfiioadmpjmmgaaGreatDoor
set_option linter.unusedVariables false
set_option linter.unusedSimpArgs false
open Go.RowKit Ieee Ntt
theorem partD_more {a b : Nat} {m M : Int} (h : partD a b m = 0) (hm : m ≤ M) : partD a b M = 0 := by
  unfold partD at h ⊢
  split at h
  · rename_i h1
    rw [if_pos h1]
    split at h
    · rename_i h2
      simp only [Bool.and_eq_true] at h2
      have a1 := inE_iff.1 h2.1
      have a2 := inE_iff.1 h2.2
      rw [if_pos (by rw [Bool.and_eq_true]; exact ⟨inE_iff.2 (by omega), inE_iff.2 (by omega)⟩)]
    · exact absurd h (by decide)
  · exact absurd h (by decide)
/-- The phase of a number of a field. -/
def phsP (X Y : Nat → Int) (i : Nat) : Int := if X i = 0 ∧ Y i = 0 then 1000000000000 else phaseP (X i) (Y i)
theorem phs_num {f : Nat → Nat × Nat} {k : Nat} (h : gD f 1000000000 k = 0) : phE (f k).1 (f k).2 = (if xD f k = 0 ∧ yD f k = 0 then 31 else 0) ∧ (phE (f k).1 (f k).2 = 0 → phV (f k).1 (f k).2 = phaseP (xD f k) (yD f k)) := by
  have hp : partD (f k).1 (f k).2 100000000000 = 0 := partD_more h (by decide)
  refine ⟨by unfold phE; rw [if_pos hp]; rfl, fun h0 => by unfold phV; rw [if_pos h0]; rfl⟩
set_option maxHeartbeats 1000000 in
theorem phasesOf_bad (L S : Int) (n cap : Nat) (f : Nat → Nat × Nat) (a : Option Addr) (w : World) (hl : n ≤ 100000) (hd : FldAt w L S n f a) (hw : Wide64 n f) {e0 : Int} (he : (fldE L S n f).2 = e0) (h0 : e0 ≠ 0) :
    Calls Tryz.prog 50 #[.agg #[.int .i64 L, .int .i64 S, .slice a n cap]] w fun e w' => e = .returned (.tuple #[.agg #[.int .i64 0, .int .i64 0, .slice none 0 0], .int .i64 e0]) ∧ Below w.heap.size w w' := by
  have HFE := Lib.hid (show ∀ W, Below w.heap.size w W → _ from fun W hW => fFieldErr L S n cap f a W hl (hd.below hW) hw he)
  have hne : (e0 != 0) = true := by simpa using h0
  clear hd he h0
  go_enter Tryz.func50, Tryz.ntmps50
  go_wp2_with (first | (go_at_call 68; (with_reducible refine (HFE.out _ (by (repeat' (first | with_reducible exact Below.refl _ _ | (with_reducible refine below_later_of ?_ ?_ _) | (with_reducible refine Below.alloc ?_ ?_ _) | (with_reducible refine Below.setCell ?_ ?_ _) | (with_reducible refine Below.drew ?_) | (simp; done) | (simp; omega) | omega)))).mono ?_); rintro e w' ⟨rfl, hb⟩; obtain ⟨pe, rfl⟩ := later_of_below hb; clear hb))
  refine bodyPost_ret ?_ rfl ⟨rfl, (by (repeat' (first | with_reducible exact Below.refl _ _ | (with_reducible refine below_later_of ?_ ?_ _) | (with_reducible refine Below.alloc ?_ ?_ _) | (with_reducible refine Below.setCell ?_ ?_ _) | (with_reducible refine Below.drew ?_) | (simp; done) | (simp; omega) | omega)))⟩
  first | (simp [results, Tryz.results50, go_sem]; done) | simp [results, Tryz.results50, go_sem, ↓IntWalk.iteOmega]
set_option maxRecDepth 20000 in
set_option maxHeartbeats 4000000 in
theorem phasesOf_ok (L S : Int) (n cap : Nat) (f : Nat → Nat × Nat) (a : Option Addr) (w : World) (hd : FldAt w L S n f a) (hw : Wide64 n f) (hl : n ≤ 100000) (he : (fldE L S n f).2 = 0) :
    Calls Tryz.prog 50 #[.agg #[.int .i64 L, .int .i64 S, .slice a n cap]] w fun e w' => ∃ q c, e = .returned (.tuple #[.agg #[.int .i64 L, .int .i64 S, .slice q n c], .int .i64 0]) ∧ OwnIV w.heap.size w' (.slice q n c) ((List.range n).map (phsP (xD f) (yD f))) ∧ Below w.heap.size w w' := by
  obtain ⟨i0, hi0, hz0, hz1, hz2⟩ := info_parts info3
  have HFE := Lib.hid (show ∀ W, Below w.heap.size w W → _ from fun W hW => fFieldErr L S n cap f a W hl (hd.below hW) hw he)
  obtain ⟨s1, g1⟩ := fldE_zero he
  obtain ⟨⟨hL1, hL⟩, ⟨hS1, hS⟩, hn⟩ := sizeE_okU s1
  obtain ⟨b, off, rfl, hbw, hf⟩ := hd s1
  have hn5 : n ≤ 5000 := by
    have := Int.mul_le_mul hL hS (by omega) (by decide)
    omega
  have HG := Lib.hid g1
  have HF := Lib.hid hf
  have HWI := Lib.hid hw
  obtain ⟨P, hP⟩ : ∃ P, phsP (xD f) (yD f) = P := ⟨_, rfl⟩
  have HPP := Lib.hid (show ∀ i, P i = if xD f i = 0 ∧ yD f i = 0 then 1000000000000 else phaseP (xD f i) (yD f i) from fun i => by rw [← hP]; rfl)
  rw [hP]
  clear hd he s1 g1 hf hw hP
  go_enter Tryz.func50, Tryz.ntmps50
  go_wp2_with (first | (go_at_call 68; (with_reducible refine (HFE.out _ (by (repeat' (first | with_reducible exact Below.refl _ _ | (with_reducible refine below_later_of ?_ ?_ _) | (with_reducible refine Below.alloc ?_ ?_ _) | (with_reducible refine Below.setCell ?_ ?_ _) | (with_reducible refine Below.drew ?_) | (simp; done) | (simp; omega) | omega)))).mono ?_); rintro e w' ⟨rfl, hb⟩; obtain ⟨pe, rfl⟩ := later_of_below hb; clear hb))
  obtain ⟨O, hO⟩ : ∃ O, O = w.heap.size + 1 + 1 + pe.os.size := ⟨_, rfl⟩
  refine any_worldF (fun W => ∃ W1, Below w.heap.size w W1 ∧ W1.heap.size = w.heap.size + 1 ∧ W1.cell? ⟨w.heap.size, 2, none⟩ = some (.slice (some ⟨b, off, none⟩) n cap) ∧ TriN W1 (w.heap.size + 1) O L S 3 1 (.slice none 0 0) 0 (inC P 0) W)
    ⟨w.alloc (.cells #[.int .i64 L, .int .i64 S, .slice (some ⟨b, off, none⟩) n cap] 28), (by (repeat' (first | with_reducible exact Below.refl _ _ | (with_reducible refine below_later_of ?_ ?_ _) | (with_reducible refine Below.alloc ?_ ?_ _) | (with_reducible refine Below.setCell ?_ ?_ _) | (with_reducible refine Below.drew ?_) | (simp; done) | (simp; omega) | omega))), by simp, by simp [go_sem], by rw [hO]; (first | (simp [go_sem]; done) | simp [go_sem, ↓IntWalk.iteOmega]), by rw [hO]; (first | (simp [go_sem]; done) | simp [go_sem, ↓IntWalk.iteOmega]), by rw [hO]; (first | (simp [go_sem]; done) | simp [go_sem, ↓IntWalk.iteOmega]), by rw [hO]; (first | (simp [go_sem]; done) | simp [go_sem, ↓IntWalk.iteOmega]), by (first | (simp [go_sem]; done) | simp [go_sem, ↓IntWalk.iteOmega]), by (first | (simp [go_sem]; done) | simp [go_sem, ↓IntWalk.iteOmega]), by (first | (simp [go_sem]; done) | simp [go_sem, ↓IntWalk.iteOmega]), by (first | (simp [go_sem]; done) | simp [go_sem, ↓IntWalk.iteOmega]), by (first | (simp [go_sem]; done) | simp [go_sem, ↓IntWalk.iteOmega]), by (first | (simp [go_sem]; done) | simp [go_sem, ↓IntWalk.iteOmega]), World.ownsRow_nil _ _ _ _, (by (repeat' (first | with_reducible exact Below.refl _ _ | (with_reducible refine below_later_of ?_ ?_ _) | (with_reducible refine Below.alloc ?_ ?_ _) | (with_reducible refine Below.setCell ?_ ?_ _) | (with_reducible refine Below.drew ?_) | (simp; done) | (simp; omega) | omega))), by rw [hO]; simp, by omega⟩ ?_
  rintro W2 ⟨W1, hb1, hsz1, q2, hst⟩
  simp only [← hO]
  have HST := Lib.hid hst
  have HB1 := Lib.hid hb1
  have Q2 := Lib.hid q2
  have k2 := (hst.bel.cell (p := ⟨w.heap.size, 2, none⟩) (Nat.lt_succ_self _)).trans q2
  have hwO : w.heap.size + 1 < O := by omega
  clear hst hb1 q2 hO
  go_wp2
  go_loopw [24] (fun ii wr => ∃ (k : Nat) (v : Value), k ≤ n ∧ ii = .int .i64 k ∧ TriN W1 (w.heap.size + 1) O L S 3 1 v k (inC P k) wr) (fun ii _ => n - (intOf ii).toNat)
  case atStart => exact ⟨0, _, Nat.zero_le _, rfl, HST.out⟩
  case round =>
    clear k2
    obtain ⟨k, v, hk, rfl, hst⟩ := hrel
    have HS2 := Lib.hid hst
    by_cases hlt : k < n
    · have hdk : decide ((k : Int) < (n : Int)) = true := by simp; omega
      have hk0 : (0 : Int) ≤ (k : Int) := by omega
      have hk1 : (k : Int) < (n : Int) := by omega
      have hbw2 := HB1.out.trans (hst.bel.mono (Nat.le_succ _))
      have ck := (hbw2.cell (p := ⟨b, off + k, none⟩) hbw).trans (HF.out k hlt)
      have hbr : b < wr.heap.size := by have := hbw2.size; omega
      have hltO := hst.lt
      obtain ⟨t1, t2⟩ := phs_num (HG.out k hlt)
      have HPH := Lib.hid (fun w => PhaseOf_any (f k).1 (f k).2 w (HWI.out k hlt).1 (HWI.out k hlt).2 rfl rfl)
      have hsn := inC_succ P k
      obtain ⟨p, hp⟩ : ∃ p, P k = p := ⟨_, rfl⟩
      rw [hp] at hsn
      have HPN := Lib.hid hsn
      have hpk := HPP.out k
      rw [hp] at hpk
      by_cases hz : xD f k = 0 ∧ yD f k = 0
      · rw [if_pos hz] at t1 hpk
        have hd1 : ((31 : Int) != 0) = true := by decide
        subst hpk
        rw [t1] at HPH
        generalize phV (f k).1 (f k).2 = pv at *
        generalize (f k).1 = fa at *
        generalize (f k).2 = fb at *
        clear hst hbw2 hsn hp t1 t2 hz
        go_wp2_with (first | (go_at_call 115; (with_reducible refine (HPH.out _).mono ?_); rintro e w' ⟨rfl, hb⟩; have HS5 := Lib.hid (HS2.out.below hb); have c2 := HS5.out.c2; have f2 := HS5.out.f2; have hlt5 := HS5.out.lt; obtain ⟨p1, rfl⟩ := later_of_below hb; clear hb) | (at_builtin; refine wpList_append_own _ rfl _ _ 22 rfl (O + 1) 3 i0 (.int .i64 0) 1 8 Tryz.underlying22 hi0 hz0 hz1 hz2 rfl (by decide) _ _ _ rfl (HS5.out.own.alloc _) ⟨_, 0, none⟩ 1 1 [.int .i64 1000000000000] rfl rfl ?d1 ?d2 ?d3 ?d4 ?d5 ?_))
        case d1 => exact (by intro j u hj; rcases j with _ | j; (focus (simp at hj; subst hj; (first | (simp [Addr.add, go_sem]; done) | simp [Addr.add, go_sem, ↓IntWalk.iteOmega]))); (focus (simp at hj)))
        case d2 => intro u hu; simp at hu; subst hu; rfl
        case d3 => unfold maxLen; omega
        case d4 => omega
        case d5 => first | omega | (simp; omega)
        intro v' w1 hown' hgrow _
        obtain ⟨va, vc, rfl⟩ := own_slice2 hown'
        have HN2 := Lib.hid (HS5.out.put hown' hgrow)
        obtain ⟨hcb, hfb⟩ := HS5.out.still hgrow
        clear hown' hgrow
        go_wp2
        go_roundw
        case rel => exact ⟨k + 1, _, by omega, by go_num, by rw [HPN.out]; exact HN2.out⟩
        case measure => simp [intOf]; omega
      · rw [if_neg hz] at t1 hpk
        rw [t1] at HPH
        rw [t2 t1, ← hpk] at HPH
        generalize (f k).1 = fa at *
        generalize (f k).2 = fb at *
        clear hst hbw2 hsn hp t1 t2 hz hpk
        go_wp2_with (first | (go_at_call 115; (with_reducible refine (HPH.out _).mono ?_); rintro e w' ⟨rfl, hb⟩; have HS5 := Lib.hid (HS2.out.below hb); have c2 := HS5.out.c2; have f2 := HS5.out.f2; have hlt5 := HS5.out.lt; obtain ⟨p1, rfl⟩ := later_of_below hb; clear hb) | (at_builtin; refine wpList_append_own _ rfl _ _ 22 rfl (O + 1) 3 i0 (.int .i64 0) 1 8 Tryz.underlying22 hi0 hz0 hz1 hz2 rfl (by decide) _ _ _ rfl (HS5.out.own.alloc _) ⟨_, 0, none⟩ 1 1 [.int .i64 p] rfl rfl ?d1 ?d2 ?d3 ?d4 ?d5 ?_))
        case d1 => exact (by intro j u hj; rcases j with _ | j; (focus (simp at hj; subst hj; (first | (simp [Addr.add, go_sem]; done) | simp [Addr.add, go_sem, ↓IntWalk.iteOmega]))); (focus (simp at hj)))
        case d2 => intro u hu; simp at hu; subst hu; rfl
        case d3 => unfold maxLen; omega
        case d4 => omega
        case d5 => first | omega | (simp; omega)
        intro v' w1 hown' hgrow _
        obtain ⟨va, vc, rfl⟩ := own_slice2 hown'
        have HN2 := Lib.hid (HS5.out.put hown' hgrow)
        obtain ⟨hcb, hfb⟩ := HS5.out.still hgrow
        clear hown' hgrow
        go_wp2
        go_roundw
        case rel => exact ⟨k + 1, _, by omega, by go_num, by rw [HPN.out]; exact HN2.out⟩
        case measure => simp [intOf]; omega
    · obtain rfl : k = n := by omega
      have hdk : decide ((k : Int) < (k : Int)) = false := by simp
      obtain ⟨a', c', rfl⟩ := own_slice2 hst.own
      obtain ⟨e0', e1, e2, -, r0, r1', r2', g0, g1, g2, hown, hbel, -, hro⟩ := hst
      have HOW := Lib.hid hown
      have HBE := Lib.hid (HB1.out.trans (hbel.mono (by omega)))
      clear hown hbel
      go_wp2
      refine bodyPost_ret (v := .tuple #[.agg #[.int .i64 L, .int .i64 S, .slice a' k c'], .int .i64 0]) ?_ rfl ⟨a', c', rfl, ?_, HBE.out.trans (by (repeat' (first | with_reducible exact Below.refl _ _ | (with_reducible refine below_later_of ?_ ?_ _) | (with_reducible refine Below.alloc ?_ ?_ _) | (with_reducible refine Below.setCell ?_ ?_ _) | (with_reducible refine Below.drew ?_) | (simp; done) | (simp; omega) | omega)))⟩
      · first | (simp [results, Tryz.results50, go_sem, r0, r1', r2']; done) | simp [results, Tryz.results50, go_sem, r0, r1', r2', ↓IntWalk.iteOmega]
      · have h0 := siR_own (l := (List.range k).map P) (by rw [List.map_map]; exact HOW.out) (by simp) (by omega)
        refine OwnIV.mono (OwnIV.set (OwnIV.set (OwnIV.set h0 ?_ _) ?_ _) ?_ _) ?_
        all_goals first | omega | (simp <;> omega)
end Go.Proofs.YtfiioadmpjmmgaaGreatDoor
