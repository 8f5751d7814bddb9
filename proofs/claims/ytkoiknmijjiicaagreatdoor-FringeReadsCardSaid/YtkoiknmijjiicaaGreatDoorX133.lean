/- Chapter 4: the program's Parse: the round of a line behind the first one. (Printed by mkx132.py from X133.src.) -/
import Derived.Test.YtkoiknmijjiicaaGreatDoorX132
namespace Go.Proofs.YtkoiknmijjiicaaGreatDoor
set_option linter.unusedVariables false
set_option linter.unusedSimpArgs false
open Go Go.RowKit Go.Sort
set_option maxRecDepth 20000 in
set_option maxHeartbeats 4000000 in
theorem parseLine (body : Code) (hbody : Tryz.f15.body.bind rangeBody = some body) (lk T : ByteArray) (b : Bool) (ws : List ByteArray) (k m D O B mm l : Nat) (X : Value) (R C : Int) (v v2 : Value) (zs ls : List Int) (w W : World) (I : World → Prop) (Ix : Code → World → Prop)
    (hk1 : 0 < k) (hk2 : k ≤ 60000) (hzl : zs.length ≤ 60001) (hll : ls.length ≤ 60001) (hm : ws.length = m) (hm1 : 0 < m) (hm2 : m ≤ 60001) (hwz : ∀ j, (textAt ws j).size ≤ 60000) (ht : TabR w)
    (hcs : ∀ W, Calls Tryz.prog 53 #[.string lk, .string ⟨#[10]⟩] W fun e w' => e = .returned (.tuple #[.string T, .bool b]) ∧ w' = W)
    (hsp : ∀ W, TabR W → Calls Tryz.prog 54 #[.string T, .string ⟨#[32]⟩] W fun e w' => e = .returned (.slice (some ⟨W.heap.size, 0, none⟩) m m) ∧ w' = W.alloc (.cells (ws.map Value.string).toArray 9))
    (hst : RdSt w D O B X (k : Int) R C v zs v2 ls W)
    (hgo : ∀ W' ns v' v2', b = true → numsK k ws m = some ns → RdSt w D O B X ((k : Int) + 1) R C v' (zs ++ ns) v2' (ls ++ [(m : Int)]) W' → I W')
    (hbad : ∀ W', ¬ (b = true ∧ ∃ ns, numsK k ws m = some ns) → RetB w D O ((k : Int) + 1) W' → Ix .ret W')
    (u0 u1 u9 u10 u11 u12 u13 u14 u15 u16 u17 u18 u19 u20 u21 u22 u23 u25 u26 u27 u28 u29 u30 u31 u32 u33 u34 u35 u36 u37 u38 u39 u40 u41 u42 u43 u44 u45 u46 u47 u48 u49 u50 u51 u52 u53 u54 u55 u56 u57 u58 u59 u60 u61 u62 u63 u64 u65 u66 u67 u68 u69 u70 u71 u72 u73 u74 u75 u76 u77 u78 u79 u80 u81 u82 u83 u84 u85 u86 u87 u88 u89 u90 u91 u92 u93 u94 u95 u96 u97 u98 u99 u100 u101 u102 u103 u104 u105 u106 u107 u108 u109 u110 u111 u112 u113 u114 u115 u116 u117 u118 u119 : Value) :
    body.wpIn (Fence.wide.inRound l) (mm + 2) Tryz.prog (boundPostT 3 D I Ix W) { tmps := #[u0, u1, .pointer (some ⟨O, 0, none⟩), .pointer (some ⟨O + 1, 0, none⟩), .pointer (some ⟨O + 2, 0, none⟩), .pointer (some ⟨O + 3, 0, none⟩), .pointer (some ⟨O + 4, 0, none⟩), .pointer (some ⟨O + 5, 0, none⟩), .string lk, u9, u10, u11, u12, u13, u14, u15, u16, u17, u18, u19, u20, u21, u22, u23, .string lk, u25, u26, u27, u28, u29, u30, u31, u32, u33, u34, u35, u36, u37, u38, u39, u40, u41, u42, u43, u44, u45, u46, u47, u48, u49, u50, u51, u52, u53, u54, u55, u56, u57, u58, u59, u60, u61, u62, u63, u64, u65, u66, u67, u68, u69, u70, u71, u72, u73, u74, u75, u76, u77, u78, u79, u80, u81, u82, u83, u84, u85, u86, u87, u88, u89, u90, u91, u92, u93, u94, u95, u96, u97, u98, u99, u100, u101, u102, u103, u104, u105, u106, u107, u108, u109, u110, u111, u112, u113, u114, u115, u116, u117, u118, u119], defers := [] } W := by
  unfold Tryz.f15 at hbody
  simp only [Option.bind_some, rangeBody, Option.some.injEq] at hbody
  subst hbody
  obtain ⟨i0, hi0, hz0, hz1, hz2⟩ := info_parts infoInt
  have HT := Lib.hid ht
  have HM := Lib.hid hm
  have HWZ := Lib.hid hwz
  have HGO := Lib.hid hgo
  have HBAD := Lib.hid hbad
  have HCS := Lib.hid hcs
  have hlo := hst.lo
  have hhi := hst.hi
  have hhd := hst.hd
  have hsz := hst.sz
  obtain ⟨SB, hSB⟩ : ∃ SB, W.heap.size = SB := ⟨_, rfl⟩
  have HSB := Lib.hid (show O + 5 < SB by omega)
  have HSP := Lib.hid (show Calls Tryz.prog 54 #[.string T, .string ⟨#[32]⟩] (W.setCell ⟨O + 5, 0, none⟩ (.int .i64 ((k : Int) + 1))) fun e w' => e = .returned (.slice (some ⟨SB, 0, none⟩) m m) ∧ RdSt w D O B X ((k : Int) + 1) R C v zs v2 ls w' ∧ WrdB w' SB ws ∧ KeepT 3 D W w' ∧ SB < w'.heap.size from by
    have h1 := hst.number ((k : Int) + 1)
    refine (hsp _ (ht.below h1.bel)).mono ?_
    rintro e w' ⟨rfl, rfl⟩
    have hz : (W.setCell ⟨O + 5, 0, none⟩ (.int .i64 ((k : Int) + 1))).heap.size = SB := by rw [← hSB]; simp [World.setCell]
    rw [hz]
    refine ⟨rfl, h1.below ((Below.refl _ _).alloc (Nat.le_refl _) _), ?_, ((KeepT.refl _ _).setCell (p := ⟨O + 5, 0, none⟩) (by show O + 5 < D; omega) _).trans (KeepT.below ((Below.refl _ _).alloc (Nat.le_refl _) _)), by simp [hz]⟩
    have := World.alloc_heap_new (W.setCell ⟨O + 5, 0, none⟩ (.int .i64 ((k : Int) + 1))) (.cells (ws.map Value.string).toArray 9)
    rw [hz] at this
    exact this)
  obtain ⟨c5, f5⟩ := hst.n0
  have hk3 : ((k : Int) + 1 == 1) = false := by simp; omega
  clear hst hsp hcs hgo hbad hwz ht hm
  gi_wp2_with (first | (refine ⟨trivial, ?_⟩; gi_at_call 53; (with_reducible refine (callsIn_round (HCS.out _)).mono ?_); rintro e w1 ⟨rfl, rfl⟩) | (refine ⟨trivial, ?_⟩; gi_at_call 54; (with_reducible refine (callsIn_round HSP.out).mono ?_); rintro e w2 ⟨rfl, hs2, hw2, hk2, hl2⟩; have HS2 := Lib.hid hs2; have HW2 := Lib.hid hw2; have HK2 := Lib.hid hk2; obtain ⟨c6, f6⟩ := hs2.n0; clear hs2 hw2 hk2 c5 f5))
  clear c6 f6
  gi_loopw [10, 53] (fun f i wr => ∃ (j : Nat) (ps : List Int) (v' : Value), j ≤ m ∧ i = .int .i64 j ∧ f = .bool (b && (numsK k ws j).isSome) ∧ ps.length = j ∧ (∀ ns, numsK k ws j = some ns → ps = ns) ∧ RdSt w D O B X ((k : Int) + 1) R C v' (zs ++ ps) v2 ls wr ∧ WrdB wr SB ws ∧ KeepT 3 D W wr) (fun _ i _ => m - (intOf i).toNat)
  case atStart => exact ⟨0, [], v, Nat.zero_le _, rfl, by rw [numsK_zero]; cases b <;> rfl, rfl, fun ns h => by rw [numsK_zero] at h; exact Option.some.inj h, by rw [List.append_nil]; exact HS2.out, HW2.out, HK2.out⟩
  case round =>
    obtain ⟨j, ps, v', hj, rfl, rfl, hpl, hps, hsr, hwr, hkr⟩ := hrel
    have HPS := Lib.hid hps
    have HPL := Lib.hid hpl
    obtain ⟨va, vn, vc, rfl⟩ : ∃ a n c, v' = .slice a n c := by
      obtain ⟨a, c, h⟩ := ownsRow_form hsr.own
      exact ⟨a, _, c, h⟩
    have HSR := Lib.hid hsr
    have HWR := Lib.hid hwr
    have HKR := Lib.hid hkr
    have hWlt := hwr.lt
    obtain ⟨eb, heb⟩ : ∃ eb, (b && (numsK k ws j).isSome) = eb := ⟨_, rfl⟩
    have HEB := Lib.hid heb
    rw [heb]
    by_cases hlt : j < m
    · have hd1 : decide ((j : Int) < (m : Int)) = true := by simp; omega
      have hj1 : (j : Int) < (m : Int) := by omega
      obtain ⟨x, hx⟩ : ∃ x, textAt ws j = x := ⟨_, rfl⟩
      have cx := hwr.cell (j := j) (by rw [HM.out]; omega)
      rw [hx] at cx
      obtain ⟨c, hc⟩ : ∃ c, (phW x true).isSome = c := ⟨_, rfl⟩
      have HPH := Lib.hid (show Calls Tryz.prog 55 #[.string x, .bool true] wr fun e w' => ∃ p : Int, e = .returned (.tuple #[.int .i64 p, .bool c]) ∧ (∀ v, phW x true = some v → p = v) ∧ Below wr.heap.size wr w' from by
        rw [← hc]
        exact phase_any x true wr (by have := HWZ.out j; rw [hx] at this; omega) (HT.out.below hsr.bel))
      have HR0 := Lib.hid (show wordP k x = phW x true from by unfold wordP; rw [decide_eq_true hk1])
      have HNX := Lib.hid (numsK_succ k ws j (by rw [HM.out]; exact hlt) (by omega))
      rw [hx] at HNX
      have HSO := Lib.hid (snoc_isSome HNX.out)
      rw [HR0.out, hc] at HSO
      obtain ⟨ys, hys⟩ : ∃ ys, zs ++ ps = ys := ⟨_, rfl⟩
      have HYS := Lib.hid hys
      have hyl : ys.length ≤ 120002 := by rw [← hys, List.length_append]; omega
      obtain ⟨ny, hny⟩ : ∃ ny, ys.length = ny := ⟨_, rfl⟩
      have HNY := Lib.hid hny
      rw [hny] at hyl
      rw [hys] at HSR
      clear hps hpl hsr hwr hkr hx hc heb hys hny
      cases eb
      all_goals
        gi_wp2_with (first | (refine ⟨trivial, ?_⟩; gi_at_call 55; (with_reducible refine (callsIn_round HPH.out).mono ?_); rintro e w4 ⟨p, rfl, hp, hb⟩; have HS4 := Lib.hid (HSR.out.below hb); have HW4 := Lib.hid (HWR.out.below hb hWlt); have HK4 := Lib.hid (HKR.out.trans (KeepT.below (T := 3) (B := D) hb)); have HP := Lib.hid hp; obtain ⟨c30, f30⟩ := HS4.out.m2; have HOW := Lib.hid (show w4.ownsRow D 3 1 (.slice va vn vc) ny (intC ys) from by rw [← HNY.out]; exact HS4.out.own); have hz4 := hb.size; have hsz4 := HS4.out.sz; clear hp hb cx) | (gi_at_builtin; refine wpListIn_append_own_at _ rfl _ _ 42 rfl D 3 i0 (.int .i64 0) 1 8 Tryz.underlying42 hi0 hz0 hz1 hz2 rfl (by decide) _ _ _ rfl (HOW.out.alloc _) ⟨w4.heap.size, 0, none⟩ 1 1 [.int .i64 p] rfl rfl ?d1 ?d2 ?d3 ?d4 ?d5 ?_))
        case d1 => exact cells_int1 _ _ _
        case d2 => first | rfl | (intro u hu; simp at hu; subst hu; rfl)
        case d3 => unfold maxLen; omega
        case d4 => omega
        case d5 => first | omega | (simp; omega)
        intro v' w5 hown' hgrow _ hloc
        have hb5 := grown_below HS4.out.sz HS4.out.own hgrow
        obtain ⟨s1, s2⟩ := HS4.out.m2.below hb5 (by omega)
        obtain ⟨ga, gc, rfl⟩ := row_slice hown' (by omega)
        have HS5 := Lib.hid (HS4.out.addZ HNY.out hown' hgrow hloc)
        have HW5 := Lib.hid ((HW4.out.grown HS4.out.own hgrow).other (b := O + 3) (j := 2) (by have := HSB.out; omega) (.slice (some ⟨ga, 0, none⟩) (ny + 1) gc))
        have HK5 := Lib.hid ((HK4.out.trans (keepT_grown HS4.out.sz HS4.out.own hgrow)).setCell (p := ⟨O + 3, 2, none⟩) (by show O + 3 < D; omega) (.slice (some ⟨ga, 0, none⟩) (ny + 1) gc))
        clear hown' hgrow hloc hb5
        gi_wp2
        go_roundw
        case rel => exact ⟨j + 1, ps ++ [p], _, by omega, by go_num, by rw [HSO.out, ← Bool.and_assoc, HEB.out]; first | rfl | simp, by rw [List.length_append, HPL.out]; rfl, fun ns h => (by
          rw [HNX.out] at h
          cases hms : numsK k ws j with
          | none => rw [hms] at h; cases h
          | some ms =>
            rw [hms] at h
            cases hr : wordP k x with
            | none => rw [hr] at h; cases h
            | some z =>
              rw [hr] at h
              injection h with h
              rw [← h, HPS.out ms hms, HP.out z (by rw [← HR0.out]; exact hr)]), by rw [← List.append_assoc, HYS.out]; exact HS5.out, HW5.out, HK5.out⟩
        case measure => simp [intOf]; omega
    · have hd1 : decide ((j : Int) < (m : Int)) = false := by simp; omega
      have hje : j = m := by omega
      have hpo := hsr.hi
      have hpd := hsr.hd
      cases eb
      · obtain ⟨c7, f7⟩ := hsr.n0
        obtain ⟨g0, g0f⟩ := hsr.r0
        obtain ⟨g1, g1f⟩ := hsr.r1
        obtain ⟨g2, g2f⟩ := hsr.r2
        obtain ⟨g3, g3f⟩ := hsr.r3
        obtain ⟨g4, g4f⟩ := hsr.r4
        have HB2 := Lib.hid (show ∀ W', RetB w D O ((k : Int) + 1) W' → Ix .ret W' from fun W' h => HBAD.out W' (fun h2 => by
          have h3 := HEB.out
          obtain ⟨h4, ns, h6⟩ := h2
          rw [hje, h6, h4] at h3
          cases h3) h)
        clear hps hpl hsr hwr hkr heb
        gi_wp2
        gi_region
        all_goals
          gi_wp2
          exact ⟨(((((HKR.out.setCell (p := ⟨O, 0, none⟩) (by show O < D; omega) _).setCell (p := ⟨O, 1, none⟩) (by show O < D; omega) _).setCell (p := ⟨O, 2, none⟩) (by show O < D; omega) _).setCell (p := ⟨O + 1, 0, none⟩) (by show O + 1 < D; omega) _).setCell (p := ⟨O + 2, 0, none⟩) (by show O + 2 < D; omega) _).drew, HB2.out _ HSR.out.ret.drew⟩
      · obtain ⟨⟨ns, hns⟩, hbt⟩ : (∃ ns, numsK k ws m = some ns) ∧ b = true := by
          rw [Bool.and_eq_true, hje] at heb
          exact ⟨Option.isSome_iff_exists.1 heb.2, heb.1⟩
        have HN := Lib.hid hns
        have HPN := Lib.hid (hps ns (by rw [hje]; exact hns))
        have HBT := Lib.hid hbt
        obtain ⟨la, lc, rfl⟩ := ownsRow_form hsr.own2
        have HOL := Lib.hid hsr.own2
        obtain ⟨c8, f8⟩ := hsr.l0
        have hsz8 := hsr.sz
        have hllr : ls.length ≤ 60001 := hll
        clear hps hpl hsr hwr hkr heb hns hbt
        gi_wp2_with (first | (gi_at_builtin; refine wpListIn_append_own_at _ rfl _ _ 42 rfl D 3 i0 (.int .i64 0) 1 8 Tryz.underlying42 hi0 hz0 hz1 hz2 rfl (by decide) _ _ _ rfl (HOL.out.alloc _) ⟨wr.heap.size, 0, none⟩ 1 1 [.int .i64 m] rfl rfl ?d1 ?d2 ?d3 ?d4 ?d5 ?_))
        case d1 => exact cells_int1 _ _ _
        case d2 => first | rfl | (intro u hu; simp at hu; subst hu; rfl)
        case d3 => unfold maxLen; omega
        case d4 => omega
        case d5 => first | omega | (simp; omega)
        intro v' w5 hown' hgrow _ hloc
        have hb5 := grown_below HSR.out.sz HSR.out.own2 hgrow
        obtain ⟨s1, s2⟩ := HSR.out.l0.below hb5 (by omega)
        obtain ⟨ga, gc, rfl⟩ := row_slice hown' (by omega)
        have HS5 := Lib.hid (HSR.out.addL rfl hown' hgrow hloc)
        have HK5 := Lib.hid ((HKR.out.trans (keepT_grown HSR.out.sz HSR.out.own2 hgrow)).setCell (p := ⟨O + 4, 0, none⟩) (by show O + 4 < D; omega) (.slice (some ⟨ga, 0, none⟩) (ls.length + 1) gc))
        clear hown' hgrow hloc hb5
        gi_wp2
        exact ⟨HK5.out, HGO.out _ ns _ _ HBT.out HN.out (by rw [← HPN.out]; exact HS5.out)⟩
end Go.Proofs.YtkoiknmijjiicaaGreatDoor
