/- Chapter 4: the law FringeMaps returns true. -/
import Derived.Test.YtkoiknmijjiicaaGreatDoorXX
import Derived.Test.YtkoiknmijjiicaaGreatDoorXY
import Derived.Test.YtkoiknmijjiicaaGreatDoorX139
import Derived.Test.YtkoiknmijjiicaaGreatDoorX20
namespace Go.Proofs.YtkoiknmijjiicaaGreatDoor
set_option linter.unusedVariables false
set_option linter.unusedSimpArgs false
open Go.RowKit Ntt
def ListCap (xs : List Int) (w : World) (e : Ending) (w' : World) : Prop :=
  ∃ a c, e = .returned (.slice a xs.length c) ∧ (OwnIV w.heap.size w' (.slice a xs.length c) xs ∧ xs.length ≤ c) ∧ Below w.heap.size w w'
set_option maxHeartbeats 1000000 in
theorem copyI_cap (zs : List Int) (b off cap : Nat) (w : World) (hl : zs.length ≤ 1000000000) (hp : 0 < zs.length) (hbw : b < w.heap.size) (hc : ∀ k, k < zs.length → w.cell? ⟨b, off + k, none⟩ = some (.int .i64 (intAt zs k))) :
    Calls Tryz.prog 66 #[.slice (some ⟨b, off, none⟩) zs.length cap] w (ListCap zs w) := by
  obtain ⟨i0, hi, hz0, hz1, hz2⟩ := info_parts info3
  have HC := Lib.hid (show ∀ W, Below w.heap.size w W → ∀ j u, (zs.map (Value.int .i64))[j]? = some u → W.cell? ((⟨b, off, none⟩ : Addr).add j) = some u from fun W hW j u hu => by
    obtain ⟨h1, rfl⟩ := intVals_at zs hu
    have e : (⟨b, off, none⟩ : Addr).add j = ⟨b, off + j, none⟩ := by simp [Addr.add] <;> omega
    rw [e]
    exact (hW.cell (p := ⟨b, off + j, none⟩) hbw).trans (hc j h1))
  clear hc
  go_enter Tryz.func66, Tryz.ntmps66
  go_wp2_with (at_builtin; refine wpList_append_own _ rfl _ _ 42 rfl w.heap.size 3 i0 (.int .i64 0) 1 8 Tryz.underlying42 hi hz0 hz1 hz2 rfl (by decide) _ 0 [] rfl (ownsRow_new1 _ _ _ _ (by simp) (by simp)) ⟨b, off, none⟩ zs.length cap (zs.map (.int .i64)) rfl ?c1 ?c2 ?c3 ?c4 ?c5 ?c6 ?_)
  case c1 => simp
  case c2 => exact HC.out _ (by (repeat' (first | with_reducible exact Below.refl _ _ | (with_reducible refine below_later_of ?_ ?_ _) | (with_reducible refine Below.alloc ?_ ?_ _) | (with_reducible refine Below.setCell ?_ ?_ _) | (with_reducible refine Below.drew ?_) | (simp; done) | (simp; omega) | omega)))
  case c3 => intro u hu; simp at hu; obtain ⟨z, _, rfl⟩ := hu; rfl
  case c4 => unfold maxLen; omega
  case c5 => omega
  case c6 => simp
  intro v' w1 hown hgrow _
  have hown2 : w1.ownsRow w.heap.size 3 1 v' zs.length (zs.map (.int .i64)) := by simpa using hown
  obtain ⟨g, c, rfl⟩ := row_slice hown2 hp
  have hcap : zs.length ≤ c := by
    obtain ⟨-, ⟨h1, -⟩ | ⟨g', cap', cur, h1, -, -, h2, -⟩⟩ := id hown2
    · cases h1
    · simp only [Value.slice.injEq] at h1
      omega
  have HPV := Lib.hid (ownIV_own hown2 hl)
  have HB := Lib.hid (show Below w.heap.size w w1 from (show Below w.heap.size w _ from (by (repeat' (first | with_reducible exact Below.refl _ _ | (with_reducible refine below_later_of ?_ ?_ _) | (with_reducible refine Below.alloc ?_ ?_ _) | (with_reducible refine Below.setCell ?_ ?_ _) | (with_reducible refine Below.drew ?_) | (simp; done) | (simp; omega) | omega)))).grown hgrow (by simp) (fun g hg => by simp [Value.ownBlock] at hg; omega))
  clear hown hown2 hgrow
  go_wp2
  go_ret
  exact ⟨_, _, rfl, ⟨HPV.out, hcap⟩, HB.out⟩
set_option maxHeartbeats 1000000 in
theorem bCopyPhases_cap (R C : Int) (zs : List Int) (v : Value) (w : World) (hv : IntsV w v zs) (hp : 0 < zs.length) :
    Calls Tryz.prog 20 #[.agg #[.int .i64 R, .int .i64 C, v]] w fun e w' => ∃ a c, e = .returned (.agg #[.int .i64 R, .int .i64 C, .slice a zs.length c]) ∧ (OwnIV w.heap.size w' (.slice a zs.length c) zs ∧ zs.length ≤ c) ∧ Below w.heap.size w w' := by
  have HCI := Lib.hid (show ∀ W, Below w.heap.size w W → Calls Tryz.prog 66 #[v] W (ListCap zs W) from fun W hW => by
    obtain ⟨hl, a, cap, rfl, h4⟩ := hv.below hW
    obtain ⟨b, off, rfl, hbw, hc⟩ := h4 hp
    exact copyI_cap zs b off cap W hl hp hbw hc)
  obtain ⟨-, a, cap, rfl, -⟩ := hv
  go_enter Tryz.func20, Tryz.ntmps20
  go_wp2_with (first | (go_at_call 66; (with_reducible refine (HCI.out _ (by (repeat' (first | with_reducible exact Below.refl _ _ | (with_reducible refine below_later_of ?_ ?_ _) | (with_reducible refine Below.alloc ?_ ?_ _) | (with_reducible refine Below.setCell ?_ ?_ _) | (with_reducible refine Below.drew ?_) | (simp; done) | (simp; omega) | omega)))).mono ?_); rintro e w' ⟨a', c', rfl, ⟨hv', hc'⟩, hb⟩; have HV' := Lib.hid hv'; clear hv'; obtain ⟨p1, rfl⟩ := later_of_below hb; clear hb))
  refine bodyPost_ret ?_ rfl ⟨a', c', rfl, ⟨?_, hc'⟩, (by (repeat' (first | with_reducible exact Below.refl _ _ | (with_reducible refine below_later_of ?_ ?_ _) | (with_reducible refine Below.alloc ?_ ?_ _) | (with_reducible refine Below.setCell ?_ ?_ _) | (with_reducible refine Below.drew ?_) | (simp; done) | (simp; omega) | omega)))⟩
  · first | (simp [results, Tryz.results20, go_sem]; done) | simp [results, Tryz.results20, go_sem, ↓IntWalk.iteOmega]
  · refine OwnIV.mono (OwnIV.set (OwnIV.set (OwnIV.set (OwnIV.set HV'.out ?_ _) ?_ _) ?_ _) ?_ _) ?_ <;> simp <;> omega
set_option maxRecDepth 20000 in
set_option maxHeartbeats 1000000 in
theorem fPrint_bad (R C : Int) (zs : List Int) (v : Value) (w : World) (hl : zs.length ≤ 100000) (hv : IntsV w v zs) {e0 : Int} (he : (mapE R C zs).2 = e0) (h0 : e0 ≠ 0) :
    Calls Tryz.prog 22 #[.agg #[.int .i64 R, .int .i64 C, v]] w fun e w' => e = .returned (.tuple #[.string ⟨#[]⟩, .int .i64 e0]) ∧ Below w.heap.size w w' := by
  have HIE := Lib.hid (show ∀ W, Below w.heap.size w W → _ from fun W hW => mapErr_any R C zs v W hl (hv.below hW) he)
  have hne : (e0 != 0) = true := by simpa using h0
  obtain ⟨-, a, cap, rfl, -⟩ := hv
  clear he
  refine callsIn_wide.1 (callsIn_of_wp_marks (F := Fence.wide) (n := 9) Tryz.func22 rfl trivial (wpIn_wide.2 ?_) rfl)
  simp only [Tryz.ntmps22, List.size_toArray, List.length_cons, List.length_nil, Nat.reduceAdd, Nat.reduceSub, Array.replicate_succ, Array.replicate_zero, List.push_toArray, List.append_toArray, List.nil_append, List.cons_append]
  go_wp2_with (first | (go_at_call 58; (with_reducible refine (HIE.out _ (by (repeat' (first | with_reducible exact Below.refl _ _ | (with_reducible refine below_later_of ?_ ?_ _) | (with_reducible refine Below.alloc ?_ ?_ _) | (with_reducible refine Below.setCell ?_ ?_ _) | (with_reducible refine Below.drew ?_) | (simp; done) | (simp; omega) | omega)))).mono ?_); rintro e w' ⟨rfl, hb⟩; obtain ⟨pe, rfl⟩ := later_of_below hb; clear hb))
  refine ⟨_, ?_, rfl, (by (repeat' (first | with_reducible exact Below.refl _ _ | (with_reducible refine below_later_of ?_ ?_ _) | (with_reducible refine Below.alloc ?_ ?_ _) | (with_reducible refine Below.setCell ?_ ?_ _) | (with_reducible refine Below.drew ?_) | (simp; done) | (simp; omega) | omega)))⟩
  simp [results, Tryz.results22, go_sem]

set_option maxRecDepth 20000 in
set_option maxHeartbeats 40000000 in
theorem maps_any (R C : Int) (zs : List Int) (v : Value) (w : World) (hx : IntsX w v zs) (ht : TabR w) :
    Calls Tryz.prog 5 #[.agg #[.int .i64 R, .int .i64 C, v]] w fun e w' => e = .returned (.bool true) ∧ Below w.heap.size w w' := by
  have HT := Lib.hid ht
  clear ht
  by_cases hn : zs.length ≤ 150
  · have hv := hx.ints (by omega)
    obtain ⟨⟨a, cap, rfl, -⟩, -⟩ := hx
    have HLI := Lib.hid (fun w => lLight R C zs.length cap a w (decide_eq_true hn))
    obtain ⟨⟨i0, e0⟩, hE⟩ : ∃ x, mapE R C zs = x := ⟨_, rfl⟩
    have HE := Lib.hid hE
    have HE2 := Lib.hid (show (mapE R C zs).2 = e0 by rw [hE])
    have HRM := Lib.hid (show ∀ W, Below w.heap.size w W → _ from fun W hW => rCheckMap R C zs _ W (by omega) (hv.below hW) hE)
    have HVV := Lib.hid hv
    by_cases h0 : e0 = 0
    · subst h0
      obtain ⟨Rn, Cn, rfl, rfl, hm⟩ := mapE_zero HE2.out
      have hi : i0 = 0 := by
        have h1 := hm.err
        rw [hE] at h1
        exact (Prod.ext_iff.1 h1).1
      subst hi
      have hpos : 0 < zs.length := by rw [hm.len]; exact Nat.mul_pos hm.r1 hm.c1
      obtain ⟨R, hR⟩ : ∃ R : Int, (Rn : Int) = R := ⟨_, rfl⟩
      obtain ⟨C, hC⟩ : ∃ C : Int, (Cn : Int) = C := ⟨_, rfl⟩
      obtain ⟨tx, htx⟩ : ∃ tx : ByteArray, (⟨(printZ Rn Cn zs).toArray⟩ : ByteArray) = tx := ⟨_, rfl⟩
      have HPR := Lib.hid (show ∀ (a' : Option Addr) (c' : Nat) (W : World), IntsV W (.slice a' zs.length c') zs → zs.length ≤ c' → Tab W → Calls Tryz.prog 22 #[.agg #[.int .i64 R, .int .i64 C, .slice a' zs.length c']] W fun e w' => e = .returned (.tuple #[.string tx, .int .i64 0]) ∧ Below W.heap.size W w' from fun a' c' W h1 h2 h3 => by
        rw [← hR, ← hC, ← htx]
        exact fPrint Rn Cn zs a' c' W hm h1 h2 h3)
      have HPA := Lib.hid (show ∀ W, TabR W → Calls Tryz.prog 15 #[.string tx] W fun e w' => ∃ v, e = .returned (.tuple #[.agg #[.int .i64 R, .int .i64 C, v], .int .i64 0, .int .i64 0]) ∧ IntsV w' v zs ∧ Below W.heap.size W w' from fun W h => by
        have h1 := fParse tx W (by rw [← htx]; exact print_size Rn Cn zs hm hn) h
        unfold RpPost at h1
        rw [← htx, print_read Rn Cn zs hm hn, htx, hR, hC] at h1
        exact h1)
      have HCB := Lib.hid (show ∀ W, Below w.heap.size w W → _ from fun W hW => bCopyPhases_cap R C zs _ W (HVV.out.below hW) hpos)
      have HRW0 := Lib.hid (show ∀ W, Below w.heap.size w W → Calls Tryz.prog 25 #[.agg #[.int .i64 R, .int .i64 C, .slice a zs.length cap]] W fun e w' => ∃ a6 c6, e = .returned (.agg #[.int .i64 R, .int .i64 C, .slice a6 zs.length c6]) ∧ OwnIV W.heap.size w' (.slice a6 zs.length c6) (wrapL zs) ∧ Below W.heap.size W w' from fun W hW => by
        have := rWrapped Rn Cn zs _ W hm (HVV.out.below hW)
        unfold RmPost at this
        rw [hR, hC, show (wrapL zs).length = zs.length by unfold wrapL; simp] at this
        exact this)
      have HRP0 := Lib.hid (show ∀ W, Below w.heap.size w W → Calls Tryz.prog 26 #[.agg #[.int .i64 R, .int .i64 C, .slice a zs.length cap]] W fun e w' => e = .returned (.string tx) ∧ Below W.heap.size W w' from fun W hW => by
        have := rPrint4 Rn Cn zs _ W hm (HVV.out.below hW)
        rw [print_same Rn Cn zs hm.c1 hm.len, hR, hC, htx] at this
        exact this)
      have HWR := Lib.hid (show ∀ W (u : Value), IntsV W u zs → Calls Tryz.prog 21 #[.agg #[.int .i64 R, .int .i64 C, u]] W fun e w' => ∃ q3 cc3, e = .returned (.tuple #[.agg #[.int .i64 R, .int .i64 C, .slice q3 zs.length cc3], .int .i64 0]) ∧ OwnIV W.heap.size w' (.slice q3 zs.length cc3) (wrapL zs) ∧ Below W.heap.size W w' from fun W u hu => by
        rw [← hR, ← hC]
        refine (one_det Rn Cn zs u W hu (by omega) (e0 := 0) (by rw [hm.err])).mono ?_
        rintro e w' ⟨r, c, k, qa, cc, rfl, hs, hb⟩
        obtain ⟨rfl, rfl, rfl, ho⟩ := hs.1 rfl
        exact ⟨qa, cc, rfl, ho, hb⟩)
      rw [hR, hC] at HE HE2 HRM HLI ⊢
      have htt : (tx.toList == tx.toList) = true := by simp
      clear hE hv htx hm
      go_enter Tryz.func5, Tryz.ntmps5
      go_wp2_with (first | (go_at_call 6; (with_reducible refine (awake4 _ (HT.out.tab.below (by (repeat' (first | with_reducible exact Below.refl _ _ | (with_reducible refine below_later_of ?_ ?_ _) | (with_reducible refine Below.alloc ?_ ?_ _) | (with_reducible refine Below.setCell ?_ ?_ _) | (with_reducible refine Below.drew ?_) | (simp; done) | (simp; omega) | omega))))).mono ?_); rintro e w' ⟨rfl, hb⟩; obtain ⟨pp, rfl⟩ := later_of_below hb; clear hb) | (go_at_call 18; (with_reducible refine (HLI.out _).mono ?_); rintro e w' ⟨rfl, hb⟩; obtain ⟨p0, rfl⟩ := later_of_below hb; clear hb) | (go_at_call 20; (with_reducible refine (HCB5.out _ (by (repeat' (first | with_reducible exact Below.refl _ _ | (with_reducible refine below_later_of ?_ ?_ _) | (with_reducible refine Below.alloc ?_ ?_ _) | (with_reducible refine Below.setCell ?_ ?_ _) | (with_reducible refine Below.drew ?_) | (simp; done) | (simp; omega) | omega)))).mono ?_); rintro e w' ⟨a3, c3, rfl, ⟨hv, hcap3⟩, hb⟩; have HVA := Lib.hid hv.ints; clear hv; obtain ⟨p3, rfl⟩ := later_of_below hb; clear hb) | (go_at_call 23; (with_reducible refine (HRM5.out _ (by (repeat' (first | with_reducible exact Below.refl _ _ | (with_reducible refine below_later_of ?_ ?_ _) | (with_reducible refine Below.alloc ?_ ?_ _) | (with_reducible refine Below.setCell ?_ ?_ _) | (with_reducible refine Below.drew ?_) | (simp; done) | (simp; omega) | omega)))).mono ?_); rintro e w' ⟨rfl, hb⟩; obtain ⟨p7, rfl⟩ := later_of_below hb; clear hb) | (go_at_call 20; (with_reducible refine (HCB.out _ (by (repeat' (first | with_reducible exact Below.refl _ _ | (with_reducible refine below_later_of ?_ ?_ _) | (with_reducible refine Below.alloc ?_ ?_ _) | (with_reducible refine Below.setCell ?_ ?_ _) | (with_reducible refine Below.drew ?_) | (simp; done) | (simp; omega) | omega)))).mono ?_); rintro e w' ⟨a3, c3, rfl, ⟨hv, hcap3⟩, hb⟩; have HVA := Lib.hid hv.ints; clear hv; obtain ⟨p3, rfl⟩ := later_of_below hb; clear hb) | (go_at_call 19; (with_reducible refine (checkMap_any R C zs _ _ (by omega) (HVA.out.below (by (repeat' (first | with_reducible exact Below.refl _ _ | (with_reducible refine below_later_of ?_ ?_ _) | (with_reducible refine Below.alloc ?_ ?_ _) | (with_reducible refine Below.setCell ?_ ?_ _) | (with_reducible refine Below.drew ?_) | (simp; done) | (simp; omega) | omega)))) HE.out).mono ?_); rintro e w' ⟨rfl, hb⟩; obtain ⟨p4, rfl⟩ := later_of_below hb; clear hb HVA) | (go_at_call 21; (with_reducible refine (HWR.out _ _ (HVA.out.below (by (repeat' (first | with_reducible exact Below.refl _ _ | (with_reducible refine below_later_of ?_ ?_ _) | (with_reducible refine Below.alloc ?_ ?_ _) | (with_reducible refine Below.setCell ?_ ?_ _) | (with_reducible refine Below.drew ?_) | (simp; done) | (simp; omega) | omega))))).mono ?_); rintro e w5 ⟨q, cc, rfl, hs, hb⟩; have HB5 := Lib.hid (show Below w.heap.size w w5 from (show Below w.heap.size w _ from (by (repeat' (first | with_reducible exact Below.refl _ _ | (with_reducible refine below_later_of ?_ ?_ _) | (with_reducible refine Below.alloc ?_ ?_ _) | (with_reducible refine Below.setCell ?_ ?_ _) | (with_reducible refine Below.drew ?_) | (simp; done) | (simp; omega) | omega)))).trans (hb.mono (by simp <;> omega))); have HOWN := Lib.hid hs.ints; have k0 : w5.cell? ⟨w.heap.size, 0, none⟩ = some (.int .i64 R) := (hb.cell (p := ⟨w.heap.size, 0, none⟩) (by simp <;> omega)).trans (by (first | (simp [go_sem]; done) | simp [go_sem, ↓IntWalk.iteOmega])); have k1 : w5.cell? ⟨w.heap.size, 1, none⟩ = some (.int .i64 C) := (hb.cell (p := ⟨w.heap.size, 1, none⟩) (by simp <;> omega)).trans (by (first | (simp [go_sem]; done) | simp [go_sem, ↓IntWalk.iteOmega])); have k2 : w5.cell? ⟨w.heap.size, 2, none⟩ = some (.slice a zs.length cap) := (hb.cell (p := ⟨w.heap.size, 2, none⟩) (by simp <;> omega)).trans (by (first | (simp [go_sem]; done) | simp [go_sem, ↓IntWalk.iteOmega])); have hlt5 : w.heap.size < w5.heap.size := Nat.lt_of_lt_of_le (by simp <;> omega) hb.size; have HT5 := Lib.hid (HT.out.below HB5.out); have HCB5 := Lib.hid (show ∀ W, Below w5.heap.size w5 W → _ from fun W hW => HCB.out W (HB5.out.trans (hW.mono HB5.out.size))); have HRM5 := Lib.hid (show ∀ W, Below w5.heap.size w5 W → _ from fun W hW => HRM.out W (HB5.out.trans (hW.mono HB5.out.size))); clear hs hb HVA) | (go_at_call 22; (with_reducible refine (HPR.out _ _ _ (HVA.out.below (by (repeat' (first | with_reducible exact Below.refl _ _ | (with_reducible refine below_later_of ?_ ?_ _) | (with_reducible refine Below.alloc ?_ ?_ _) | (with_reducible refine Below.setCell ?_ ?_ _) | (with_reducible refine Below.drew ?_) | (simp; done) | (simp; omega) | omega)))) hcap3 (HT5.out.tab.below (by (repeat' (first | with_reducible exact Below.refl _ _ | (with_reducible refine below_later_of ?_ ?_ _) | (with_reducible refine Below.alloc ?_ ?_ _) | (with_reducible refine Below.setCell ?_ ?_ _) | (with_reducible refine Below.drew ?_) | (simp; done) | (simp; omega) | omega))))).mono ?_); rintro e w' ⟨rfl, hb⟩; obtain ⟨p6, rfl⟩ := later_of_below hb; clear hb HVA) | (go_at_call 15; (with_reducible refine (HPA.out _ (HT5.out.below (by (repeat' (first | with_reducible exact Below.refl _ _ | (with_reducible refine below_later_of ?_ ?_ _) | (with_reducible refine Below.alloc ?_ ?_ _) | (with_reducible refine Below.setCell ?_ ?_ _) | (with_reducible refine Below.drew ?_) | (simp; done) | (simp; omega) | omega))))).mono ?_); rintro e w9 ⟨v1, rfl, hi1, hb⟩; obtain ⟨-, a1, c1, rfl, -⟩ := id hi1; have HB9 := Lib.hid (show Below w5.heap.size w5 w9 from (show Below w5.heap.size w5 _ from (by (repeat' (first | with_reducible exact Below.refl _ _ | (with_reducible refine below_later_of ?_ ?_ _) | (with_reducible refine Below.alloc ?_ ?_ _) | (with_reducible refine Below.setCell ?_ ?_ _) | (with_reducible refine Below.drew ?_) | (simp; done) | (simp; omega) | omega)))).trans (hb.mono (by simp <;> omega))); have m0 : w9.cell? ⟨w.heap.size, 0, none⟩ = some (.int .i64 R) := (hb.cell (p := ⟨w.heap.size, 0, none⟩) (by simp <;> omega)).trans (by (first | (simp [go_sem, k0, k1, k2]; done) | simp [go_sem, k0, k1, k2, ↓IntWalk.iteOmega])); have m1 : w9.cell? ⟨w.heap.size, 1, none⟩ = some (.int .i64 C) := (hb.cell (p := ⟨w.heap.size, 1, none⟩) (by simp <;> omega)).trans (by (first | (simp [go_sem, k0, k1, k2]; done) | simp [go_sem, k0, k1, k2, ↓IntWalk.iteOmega])); have m2 : w9.cell? ⟨w.heap.size, 2, none⟩ = some (.slice a zs.length cap) := (hb.cell (p := ⟨w.heap.size, 2, none⟩) (by simp <;> omega)).trans (by (first | (simp [go_sem, k0, k1, k2]; done) | simp [go_sem, k0, k1, k2, ↓IntWalk.iteOmega])); have o0 : w9.cell? ⟨w5.heap.size, 0, none⟩ = some (.int .i64 R) := (hb.cell (p := ⟨w5.heap.size, 0, none⟩) (by simp <;> omega)).trans (by (first | (simp [go_sem]; done) | simp [go_sem, ↓IntWalk.iteOmega])); have o1 : w9.cell? ⟨w5.heap.size, 1, none⟩ = some (.int .i64 C) := (hb.cell (p := ⟨w5.heap.size, 1, none⟩) (by simp <;> omega)).trans (by (first | (simp [go_sem]; done) | simp [go_sem, ↓IntWalk.iteOmega])); have o2 : w9.cell? ⟨w5.heap.size, 2, none⟩ = some (.slice q zs.length cc) := (hb.cell (p := ⟨w5.heap.size, 2, none⟩) (by simp <;> omega)).trans (by (first | (simp [go_sem]; done) | simp [go_sem, ↓IntWalk.iteOmega])); have hlt9 : w5.heap.size < w9.heap.size := Nat.lt_of_lt_of_le (by simp <;> omega) hb.size; have HI1 := Lib.hid hi1; clear hb hi1 k0 k1 k2))
      refine any_world138 (fun w' => (w'.cell? ⟨w.heap.size, 0, none⟩ = some (.int .i64 R) ∧ w'.cell? ⟨w.heap.size, 1, none⟩ = some (.int .i64 C) ∧ w'.cell? ⟨w.heap.size, 2, none⟩ = some (.slice a zs.length cap)) ∧ (w'.cell? ⟨w5.heap.size, 0, none⟩ = some (.int .i64 R) ∧ w'.cell? ⟨w5.heap.size, 1, none⟩ = some (.int .i64 C) ∧ w'.cell? ⟨w5.heap.size, 2, none⟩ = some (.slice q zs.length cc)) ∧ (w'.cell? ⟨w9.heap.size, 0, none⟩ = some (.int .i64 R) ∧ w'.cell? ⟨w9.heap.size, 1, none⟩ = some (.int .i64 C) ∧ w'.cell? ⟨w9.heap.size, 2, none⟩ = some (.slice a1 zs.length c1)) ∧ Below w9.heap.size w9 w' ∧ w9.heap.size < w'.heap.size) ⟨⟨(by (first | (simp [go_sem, m0, m1, m2, o0, o1, o2]; done) | simp [go_sem, m0, m1, m2, o0, o1, o2, ↓IntWalk.iteOmega])), (by (first | (simp [go_sem, m0, m1, m2, o0, o1, o2]; done) | simp [go_sem, m0, m1, m2, o0, o1, o2, ↓IntWalk.iteOmega])), (by (first | (simp [go_sem, m0, m1, m2, o0, o1, o2]; done) | simp [go_sem, m0, m1, m2, o0, o1, o2, ↓IntWalk.iteOmega]))⟩, ⟨(by (first | (simp [go_sem, m0, m1, m2, o0, o1, o2]; done) | simp [go_sem, m0, m1, m2, o0, o1, o2, ↓IntWalk.iteOmega])), (by (first | (simp [go_sem, m0, m1, m2, o0, o1, o2]; done) | simp [go_sem, m0, m1, m2, o0, o1, o2, ↓IntWalk.iteOmega])), (by (first | (simp [go_sem, m0, m1, m2, o0, o1, o2]; done) | simp [go_sem, m0, m1, m2, o0, o1, o2, ↓IntWalk.iteOmega]))⟩, ⟨(by (first | (simp [go_sem]; done) | simp [go_sem, ↓IntWalk.iteOmega])), (by (first | (simp [go_sem]; done) | simp [go_sem, ↓IntWalk.iteOmega])), (by (first | (simp [go_sem]; done) | simp [go_sem, ↓IntWalk.iteOmega]))⟩, (by (repeat' (first | with_reducible exact Below.refl _ _ | (with_reducible refine below_later_of ?_ ?_ _) | (with_reducible refine Below.alloc ?_ ?_ _) | (with_reducible refine Below.setCell ?_ ?_ _) | (with_reducible refine Below.drew ?_) | (simp; done) | (simp; omega) | omega))), (by simp <;> omega)⟩ ?_
      clear m0 m1 m2 o0 o1 o2
      rintro W6 ⟨⟨k0, k1, k2⟩, ⟨j0, j1, j2⟩, ⟨u0, u1, u2⟩, hb6, hC6⟩
      have hB6 : w5.heap.size < W6.heap.size := by omega
      have hw6 : w.heap.size < W6.heap.size := by omega
      have hs6 := hb6.size
      have HB6 := Lib.hid (HB9.out.trans (hb6.mono HB9.out.size))
      have HBW := Lib.hid (HB5.out.trans (HB6.out.mono HB5.out.size))
      have HRW := Lib.hid (show ∀ W, Below W6.heap.size W6 W → _ from fun W hW => HRW0.out W (HBW.out.trans (hW.mono HBW.out.size)))
      have HRP := Lib.hid (show ∀ W, Below W6.heap.size W6 W → _ from fun W hW => HRP0.out W (HBW.out.trans (hW.mono HBW.out.size)))
      have HS1 := Lib.hid (show ∀ W (x : Value), Below W6.heap.size W6 W → IntsV W x (wrapL zs) → Calls Tryz.prog 17 #[.agg #[.int .i64 R, .int .i64 C, .slice q zs.length cc], .agg #[.int .i64 R, .int .i64 C, x]] W fun e w' => e = .returned (.bool true) ∧ Below W.heap.size W w' from
        fun W x hW hxx => bSamePhases _ _ _ _ _ _ _ _ W (HOWN.out.below (HB6.out.trans (hW.mono HB6.out.size))) hxx (by simp))
      have HS2 := Lib.hid (show ∀ W, Below W6.heap.size W6 W → Calls Tryz.prog 17 #[.agg #[.int .i64 R, .int .i64 C, .slice a1 zs.length c1], .agg #[.int .i64 R, .int .i64 C, .slice a zs.length cap]] W fun e w' => e = .returned (.bool true) ∧ Below W.heap.size W w' from
        fun W hW => bSamePhases _ _ _ _ _ _ _ _ W (HI1.out.below (hb6.trans (hW.mono hs6))) (HVV.out.below (HBW.out.trans (hW.mono HBW.out.size))) (by simp))
      clear hb6 HRW0 HRP0 HPR HPA HCB HCB5 HRM HRM5 HWR HLI
      go_region_held3 (fun w' => (w'.cell? ⟨w.heap.size, 0, none⟩ = some (.int .i64 R) ∧ w'.cell? ⟨w.heap.size, 1, none⟩ = some (.int .i64 C) ∧ w'.cell? ⟨w.heap.size, 2, none⟩ = some (.slice a zs.length cap)) ∧ (w'.cell? ⟨w5.heap.size, 0, none⟩ = some (.int .i64 R) ∧ w'.cell? ⟨w5.heap.size, 1, none⟩ = some (.int .i64 C) ∧ w'.cell? ⟨w5.heap.size, 2, none⟩ = some (.slice q zs.length cc)) ∧ (w'.cell? ⟨w9.heap.size, 0, none⟩ = some (.int .i64 R) ∧ w'.cell? ⟨w9.heap.size, 1, none⟩ = some (.int .i64 C) ∧ w'.cell? ⟨w9.heap.size, 2, none⟩ = some (.slice a1 zs.length c1))) (first | exact ⟨⟨k0, k1, k2⟩, ⟨j0, j1, j2⟩, u0, u1, u2⟩ | ((first | (simp [go_sem, k0, k1, k2, j0, j1, j2, u0, u1, u2]; done) | simp [go_sem, k0, k1, k2, j0, j1, j2, u0, u1, u2, ↓IntWalk.iteOmega]); done)) (first | (go_at_call 25; (with_reducible refine (HRW.out _ (by (repeat' (first | with_reducible exact Below.refl _ _ | (with_reducible refine below_later_of ?_ ?_ _) | (with_reducible refine Below.alloc ?_ ?_ _) | (with_reducible refine Below.setCell ?_ ?_ _) | (with_reducible refine Below.drew ?_) | (simp; done) | (simp; omega) | omega)))).mono ?_); rintro e w' ⟨a6, c6, rfl, ho, hb⟩; have HO6 := Lib.hid ho.ints; clear ho; obtain ⟨p10, rfl⟩ := later_of_below hb; clear hb) | (go_at_call 17; (with_reducible refine (HS1.out _ _ (by (repeat' (first | with_reducible exact Below.refl _ _ | (with_reducible refine below_later_of ?_ ?_ _) | (with_reducible refine Below.alloc ?_ ?_ _) | (with_reducible refine Below.setCell ?_ ?_ _) | (with_reducible refine Below.drew ?_) | (simp; done) | (simp; omega) | omega))) (HO6.out.below (by (repeat' (first | with_reducible exact Below.refl _ _ | (with_reducible refine below_later_of ?_ ?_ _) | (with_reducible refine Below.alloc ?_ ?_ _) | (with_reducible refine Below.setCell ?_ ?_ _) | (with_reducible refine Below.drew ?_) | (simp; done) | (simp; omega) | omega))))).mono ?_); rintro e w' ⟨rfl, hb⟩; obtain ⟨p11, rfl⟩ := later_of_below hb; clear hb) | (go_at_call 17; (with_reducible refine (HS2.out _ (by (repeat' (first | with_reducible exact Below.refl _ _ | (with_reducible refine below_later_of ?_ ?_ _) | (with_reducible refine Below.alloc ?_ ?_ _) | (with_reducible refine Below.setCell ?_ ?_ _) | (with_reducible refine Below.drew ?_) | (simp; done) | (simp; omega) | omega)))).mono ?_); rintro e w' ⟨rfl, hb⟩; obtain ⟨p12, rfl⟩ := later_of_below hb; clear hb) | (go_at_call 26; (with_reducible refine (HRP.out _ (by (repeat' (first | with_reducible exact Below.refl _ _ | (with_reducible refine below_later_of ?_ ?_ _) | (with_reducible refine Below.alloc ?_ ?_ _) | (with_reducible refine Below.setCell ?_ ?_ _) | (with_reducible refine Below.drew ?_) | (simp; done) | (simp; omega) | omega)))).mono ?_); rintro e w' ⟨rfl, hb⟩; obtain ⟨p13, rfl⟩ := later_of_below hb; clear hb))
      all_goals
        rename_i hheld
        clear hheld
        go_wp2_with fail
        go_ret
        exact ⟨rfl, HBW.out.trans (by (repeat' (first | with_reducible exact Below.refl _ _ | (with_reducible refine below_later_of ?_ ?_ _) | (with_reducible refine Below.alloc ?_ ?_ _) | (with_reducible refine Below.setCell ?_ ?_ _) | (with_reducible refine Below.drew ?_) | (simp; done) | (simp; omega) | omega)))⟩
    · have hne : (e0 != 0) = true := by simpa using h0
      have hee : (e0 == e0) = true := by simp
      have hei : ((i0 : Int) != (i0 : Int)) = false := by simp
      have hen : (e0 != e0) = false := by simp
      have HCA := Lib.hid (show ∀ W, Below w.heap.size w W → Calls Tryz.prog 20 #[.agg #[.int .i64 R, .int .i64 C, .slice a zs.length cap]] W (MapPost R C zs W) from fun W hW => bCopyPhases R C zs _ W (HVV.out.below hW))
      clear hE hv
      go_enter Tryz.func5, Tryz.ntmps5
      go_wp2_with (first | (go_at_call 6; (with_reducible refine (awake4 _ (HT.out.tab.below (by (repeat' (first | with_reducible exact Below.refl _ _ | (with_reducible refine below_later_of ?_ ?_ _) | (with_reducible refine Below.alloc ?_ ?_ _) | (with_reducible refine Below.setCell ?_ ?_ _) | (with_reducible refine Below.drew ?_) | (simp; done) | (simp; omega) | omega))))).mono ?_); rintro e w' ⟨rfl, hb⟩; obtain ⟨pp, rfl⟩ := later_of_below hb; clear hb) | (go_at_call 18; (with_reducible refine (HLI.out _).mono ?_); rintro e w' ⟨rfl, hb⟩; obtain ⟨p0, rfl⟩ := later_of_below hb; clear hb) | (go_at_call 20; (with_reducible refine (HCA.out _ (by (repeat' (first | with_reducible exact Below.refl _ _ | (with_reducible refine below_later_of ?_ ?_ _) | (with_reducible refine Below.alloc ?_ ?_ _) | (with_reducible refine Below.setCell ?_ ?_ _) | (with_reducible refine Below.drew ?_) | (simp; done) | (simp; omega) | omega)))).mono ?_); rintro e w' ⟨a3, c3, rfl, hv, hb⟩; have HVA := Lib.hid hv.ints; clear hv; obtain ⟨p3, rfl⟩ := later_of_below hb; clear hb) | (go_at_call 19; (with_reducible refine (checkMap_any R C zs _ _ (by omega) (HVA.out.below (by (repeat' (first | with_reducible exact Below.refl _ _ | (with_reducible refine below_later_of ?_ ?_ _) | (with_reducible refine Below.alloc ?_ ?_ _) | (with_reducible refine Below.setCell ?_ ?_ _) | (with_reducible refine Below.drew ?_) | (simp; done) | (simp; omega) | omega)))) HE.out).mono ?_); rintro e w' ⟨rfl, hb⟩; obtain ⟨p4, rfl⟩ := later_of_below hb; clear hb HVA) | (go_at_call 21; (with_reducible refine (one_det R C zs _ _ (HVA.out.below (by (repeat' (first | with_reducible exact Below.refl _ _ | (with_reducible refine below_later_of ?_ ?_ _) | (with_reducible refine Below.alloc ?_ ?_ _) | (with_reducible refine Below.setCell ?_ ?_ _) | (with_reducible refine Below.drew ?_) | (simp; done) | (simp; omega) | omega)))) (by omega) HE2.out).mono ?_); rintro e w' ⟨r, c, k, q, cc, rfl, hs, hb⟩; obtain ⟨rfl, rfl, rfl⟩ := hs.2 h0; clear hs; obtain ⟨p5, rfl⟩ := later_of_below hb; clear hb HVA) | (go_at_call 22; (with_reducible refine (fPrint_bad R C zs _ _ (by omega) (HVA.out.below (by (repeat' (first | with_reducible exact Below.refl _ _ | (with_reducible refine below_later_of ?_ ?_ _) | (with_reducible refine Below.alloc ?_ ?_ _) | (with_reducible refine Below.setCell ?_ ?_ _) | (with_reducible refine Below.drew ?_) | (simp; done) | (simp; omega) | omega)))) HE2.out h0).mono ?_); rintro e w' ⟨rfl, hb⟩; obtain ⟨p6, rfl⟩ := later_of_below hb; clear hb HVA) | (go_at_call 23; (with_reducible refine (HRM.out _ (by (repeat' (first | with_reducible exact Below.refl _ _ | (with_reducible refine below_later_of ?_ ?_ _) | (with_reducible refine Below.alloc ?_ ?_ _) | (with_reducible refine Below.setCell ?_ ?_ _) | (with_reducible refine Below.drew ?_) | (simp; done) | (simp; omega) | omega)))).mono ?_); rintro e w' ⟨rfl, hb⟩; obtain ⟨p7, rfl⟩ := later_of_below hb; clear hb) | (go_at_call 24; (with_reducible refine (lNoMap0 _ _ _).mono ?_); rintro e w' ⟨rfl, hb⟩; obtain ⟨p8, rfl⟩ := later_of_below hb; clear hb))
      go_ret
      exact ⟨rfl, (by (repeat' (first | with_reducible exact Below.refl _ _ | (with_reducible refine below_later_of ?_ ?_ _) | (with_reducible refine Below.alloc ?_ ?_ _) | (with_reducible refine Below.setCell ?_ ?_ _) | (with_reducible refine Below.drew ?_) | (simp; done) | (simp; omega) | omega)))⟩
  · obtain ⟨⟨a, cap, rfl, -⟩, -⟩ := hx
    have HLI := Lib.hid (fun w => lLight R C zs.length cap a w (decide_eq_false hn))
    go_enter Tryz.func5, Tryz.ntmps5
    go_wp2_with (first | (go_at_call 6; (with_reducible refine (awake4 _ (HT.out.tab.below (by (repeat' (first | with_reducible exact Below.refl _ _ | (with_reducible refine below_later_of ?_ ?_ _) | (with_reducible refine Below.alloc ?_ ?_ _) | (with_reducible refine Below.setCell ?_ ?_ _) | (with_reducible refine Below.drew ?_) | (simp; done) | (simp; omega) | omega))))).mono ?_); rintro e w' ⟨rfl, hb⟩; obtain ⟨pp, rfl⟩ := later_of_below hb; clear hb) | (go_at_call 18; (with_reducible refine (HLI.out _).mono ?_); rintro e w' ⟨rfl, hb⟩; obtain ⟨p0, rfl⟩ := later_of_below hb; clear hb))
    go_ret
    exact ⟨rfl, (by (repeat' (first | with_reducible exact Below.refl _ _ | (with_reducible refine below_later_of ?_ ?_ _) | (with_reducible refine Below.alloc ?_ ?_ _) | (with_reducible refine Below.setCell ?_ ?_ _) | (with_reducible refine Below.drew ?_) | (simp; done) | (simp; omega) | omega)))⟩
end Go.Proofs.YtkoiknmijjiicaaGreatDoor
