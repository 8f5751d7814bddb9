/- Chapter 4: the program's Parse: the first line's round. (Printed by mkx132.py from X132.src.) -/
import Derived.Test.YtkoiknmijjiicaaGreatDoorX130
namespace Go.Proofs.YtkoiknmijjiicaaGreatDoor
set_option linter.unusedVariables false
set_option linter.unusedSimpArgs false
open Go Go.RowKit Go.Sort
theorem numsK_head {ws : List ByteArray} {ns : List Int} (h : numsK 0 ws ws.length = some ns) : ns.length = ws.length - 1 := by
  have h1 := allO_len _ _ h
  rw [List.length_map] at h1
  unfold lookW at h1
  rw [if_pos rfl, List.take_length, List.length_drop] at h1
  exact h1
theorem numsK_one (ws : List ByteArray) : numsK 0 ws 1 = some [] := by
  unfold numsK
  rw [lookW_skip]
  rfl
theorem snoc_isSome {o : Option (List Int)} {r : Option Int} {q : Option (List Int)} (h : q = match o, r with | some ns, some v => some (ns ++ [v]) | _, _ => none) : q.isSome = (o.isSome && r.isSome) := by
  subst h
  cases o <;> cases r <;> rfl
/-- A Parse returns from within a round. -/
def RetB (w : World) (D O : Nat) (num : Int) (W : World) : Prop :=
  Cel W O 0 (.int .i64 0) ∧ Cel W O 1 (.int .i64 0) ∧ Cel W O 2 (.slice none 0 0) ∧ Cel W (O + 1) 0 (.int .i64 num) ∧ Cel W (O + 2) 0 (.int .i64 7) ∧ Below w.heap.size w W ∧ D ≤ W.heap.size
theorem RdSt.ret {w : World} {D O B : Nat} {X : Value} {num R C : Int} {v : Value} {zs : List Int} {v2 : Value} {ls : List Int} {W : World} (h : RdSt w D O B X num R C v zs v2 ls W) :
    RetB w D O num (((((W.setCell ⟨O, 0, none⟩ (.int .i64 0)).setCell ⟨O, 1, none⟩ (.int .i64 0)).setCell ⟨O, 2, none⟩ (.slice none 0 0)).setCell ⟨O + 1, 0, none⟩ (.int .i64 num)).setCell ⟨O + 2, 0, none⟩ (.int .i64 7)) := by
  have h3 := h.lo
  refine ⟨((((h.r0.set _).other (by omega) _).other (by omega) _).other (by omega) _).other (by omega) _, ((((h.r1.other (by omega) _).set _).other (by omega) _).other (by omega) _).other (by omega) _,
    ((((h.r2.other (by omega) _).other (by omega) _).set _).other (by omega) _).other (by omega) _, ((((h.r3.other (by omega) _).other (by omega) _).other (by omega) _).set _).other (by omega) _,
    ((((h.r4.other (by omega) _).other (by omega) _).other (by omega) _).other (by omega) _).set _, ?_, by simpa [World.setCell] using h.sz⟩
  exact ((((h.bel.setCell (p := ⟨O, 0, none⟩) h3 _).setCell (p := ⟨O, 1, none⟩) h3 _).setCell (p := ⟨O, 2, none⟩) h3 _).setCell (p := ⟨O + 1, 0, none⟩) (by show w.heap.size ≤ O + 1; omega) _).setCell (p := ⟨O + 2, 0, none⟩) (by show w.heap.size ≤ O + 2; omega) _
theorem RetB.drew {w : World} {D O : Nat} {num : Int} {W : World} (h : RetB w D O num W) : RetB w D O num W.drew := ⟨h.1, h.2.1, h.2.2.1, h.2.2.2.1, h.2.2.2.2.1, h.2.2.2.2.2.1.drew, h.2.2.2.2.2.2⟩
theorem KeepT.drew {T : TypeId} {B : Nat} {X Y : World} (h : KeepT T B X Y) : KeepT T B X Y.drew := ⟨h.size, h.same⟩
set_option maxRecDepth 20000 in
set_option maxHeartbeats 4000000 in
theorem parseHead (body : Code) (hbody : Tryz.f15.body.bind rangeBody = some body) (lk T : ByteArray) (b : Bool) (ws : List ByteArray) (q D O B mm l : Nat) (X : Value) (w W : World) (I : World → Prop) (Ix : Code → World → Prop)
    (hm : ws.length = q + 1) (hq : q ≤ 60000) (hwz : ∀ j, (textAt ws j).size ≤ 60000) (ht : TabR w)
    (hcs : ∀ W, Calls Tryz.prog 53 #[.string lk, .string ⟨#[10]⟩] W fun e w' => e = .returned (.tuple #[.string T, .bool b]) ∧ w' = W)
    (hsp : ∀ W, TabR W → Calls Tryz.prog 54 #[.string T, .string ⟨#[32]⟩] W fun e w' => e = .returned (.slice (some ⟨W.heap.size, 0, none⟩) (q + 1) (q + 1)) ∧ w' = W.alloc (.cells (ws.map Value.string).toArray 9))
    (hst : RdSt w D O B X 0 0 0 (.slice none 0 0) [] (.slice none 0 0) [] W)
    (hgo : ∀ W' ns, b = true → textAt ws 0 = phases → numsK 0 ws (q + 1) = some ns → ns.length = 2 → RdSt w D O B X 1 (intAt ns 0) (intAt ns 1) (.slice none 0 0) [] (.slice none 0 0) [] W' → I W')
    (hbad : ∀ W', ¬ (b = true ∧ textAt ws 0 = phases ∧ ∃ ns, numsK 0 ws (q + 1) = some ns ∧ ns.length = 2) → RetB w D O 1 W' → Ix .ret W')
    (u0 u1 u9 u10 u11 u12 u13 u14 u15 u16 u17 u18 u19 u20 u21 u22 u23 u25 u26 u27 u28 u29 u30 u31 u32 u33 u34 u35 u36 u37 u38 u39 u40 u41 u42 u43 u44 u45 u46 u47 u48 u49 u50 u51 u52 u53 u54 u55 u56 u57 u58 u59 u60 u61 u62 u63 u64 u65 u66 u67 u68 u69 u70 u71 u72 u73 u74 u75 u76 u77 u78 u79 u80 u81 u82 u83 u84 u85 u86 u87 u88 u89 u90 u91 u92 u93 u94 u95 u96 u97 u98 u99 u100 u101 u102 u103 u104 u105 u106 u107 u108 u109 u110 u111 u112 u113 u114 u115 u116 u117 u118 u119 : Value) :
    body.wpIn (Fence.wide.inRound l) (mm + 2) Tryz.prog (boundPostT 3 D I Ix W) { tmps := #[u0, u1, .pointer (some ⟨O, 0, none⟩), .pointer (some ⟨O + 1, 0, none⟩), .pointer (some ⟨O + 2, 0, none⟩), .pointer (some ⟨O + 3, 0, none⟩), .pointer (some ⟨O + 4, 0, none⟩), .pointer (some ⟨O + 5, 0, none⟩), .string lk, u9, u10, u11, u12, u13, u14, u15, u16, u17, u18, u19, u20, u21, u22, u23, .string lk, u25, u26, u27, u28, u29, u30, u31, u32, u33, u34, u35, u36, u37, u38, u39, u40, u41, u42, u43, u44, u45, u46, u47, u48, u49, u50, u51, u52, u53, u54, u55, u56, u57, u58, u59, u60, u61, u62, u63, u64, u65, u66, u67, u68, u69, u70, u71, u72, u73, u74, u75, u76, u77, u78, u79, u80, u81, u82, u83, u84, u85, u86, u87, u88, u89, u90, u91, u92, u93, u94, u95, u96, u97, u98, u99, u100, u101, u102, u103, u104, u105, u106, u107, u108, u109, u110, u111, u112, u113, u114, u115, u116, u117, u118, u119], defers := [] } W := by
  unfold Tryz.f15 at hbody
  simp only [Option.bind_some, rangeBody, Option.some.injEq] at hbody
  subst hbody
  have HT := Lib.hid ht
  have HM := Lib.hid hm
  have HWZ := Lib.hid hwz
  have HGO := Lib.hid hgo
  have HBAD := Lib.hid hbad
  have HCS := Lib.hid hcs
  have hlo := hst.lo
  have hhi := hst.hi
  have hhd := hst.hd
  have hsz := hst.sz
  obtain ⟨SB, hSB⟩ : ∃ SB, W.heap.size = SB := ⟨_, rfl⟩
  have HSB := Lib.hid (show O + 3 < SB by omega)
  have HSP := Lib.hid (show Calls Tryz.prog 54 #[.string T, .string ⟨#[32]⟩] (W.setCell ⟨O + 5, 0, none⟩ (.int .i64 1)) fun e w' => e = .returned (.slice (some ⟨SB, 0, none⟩) (q + 1) (q + 1)) ∧ RdSt w D O B X 1 0 0 (.slice none 0 0) [] (.slice none 0 0) [] w' ∧ WrdB w' SB ws ∧ KeepT 3 D W w' ∧ SB < w'.heap.size from by
    have h1 := hst.number 1
    refine (hsp _ (ht.below h1.bel)).mono ?_
    rintro e w' ⟨rfl, rfl⟩
    have hz : (W.setCell ⟨O + 5, 0, none⟩ (.int .i64 1)).heap.size = SB := by rw [← hSB]; simp [World.setCell]
    rw [hz]
    refine ⟨rfl, h1.below ((Below.refl _ _).alloc (Nat.le_refl _) _), ?_, ((KeepT.refl _ _).setCell (p := ⟨O + 5, 0, none⟩) (by show O + 5 < D; omega) _).trans (KeepT.below ((Below.refl _ _).alloc (Nat.le_refl _) _)), by simp [hz]⟩
    have := World.alloc_heap_new (W.setCell ⟨O + 5, 0, none⟩ (.int .i64 1)) (.cells (ws.map Value.string).toArray 9)
    rw [hz] at this
    exact this)
  obtain ⟨c5, f5⟩ := hst.n0
  obtain ⟨x0, hx0⟩ : ∃ x0, textAt ws 0 = x0 := ⟨_, rfl⟩
  have HX0 := Lib.hid hx0
  have hq1 : (0 : Int) ≤ (q : Int) := by omega
  have hq2 : (1 : Int) ≤ (q : Int) + 1 := by omega
  clear hst hsp hcs hgo hbad hwz ht hx0 hm
  by_cases hq0 : q = 0
  · subst hq0
    rcases (show b = false ∨ b = true by cases b <;> simp) with rfl | rfl
    · skip
      gi_wp2_with (first | (refine ⟨trivial, ?_⟩; gi_at_call 53; (with_reducible refine (callsIn_round (HCS.out _)).mono ?_); rintro e w1 ⟨rfl, rfl⟩) | (refine ⟨trivial, ?_⟩; gi_at_call 54; (with_reducible refine (callsIn_round HSP.out).mono ?_); rintro e w2 ⟨rfl, hs2, hw2, hk2, hl2⟩; have HS2 := Lib.hid hs2; have HW2 := Lib.hid hw2; have HK2 := Lib.hid hk2; obtain ⟨c6, f6⟩ := hs2.n0; have cw := hw2.cell (j := 0) (by rw [HM.out]; omega); rw [HX0.out] at cw; clear hs2 hw2 hk2 c5 f5))
      refine wpIn_region_calm (fun ⟨_, _, h⟩ => h) (by kernel_rfl) (by kernel_rfl) (by kernel_rfl) ?_
      repeat (go_big_quiet_step (fail))
      refine wpQuiet_nil ?_
      rintro _ ⟨pp, rfl⟩
      have hbl := below_later w2 pp
      generalize later w2 pp = w3 at hbl ⊢
      have HS3 := Lib.hid (HS2.out.below hbl)
      have HW3 := Lib.hid (HW2.out.below hbl HW2.out.lt)
      have HK3 := Lib.hid (HK2.out.trans (KeepT.below (T := 3) (B := D) hbl))
      clear hbl c6 f6 cw
      gi_wp2
      gi_loopw [10, 53] (fun f i wr => f = .bool false ∧ i = .int .i64 0 ∧ wr = w3) (fun _ _ _ => 0)
      case atStart => exact ⟨rfl, rfl, rfl⟩
      case round =>
        obtain ⟨rfl, rfl, rfl⟩ := hrel
        have hsr := HS3.out
        obtain ⟨c7, f7⟩ := hsr.n0
        obtain ⟨g0, g0f⟩ := hsr.r0
        obtain ⟨g1, g1f⟩ := hsr.r1
        obtain ⟨g2, g2f⟩ := hsr.r2
        obtain ⟨g3, g3f⟩ := hsr.r3
        obtain ⟨g4, g4f⟩ := hsr.r4
        have HB2 := Lib.hid (show ∀ W', RetB w D O 1 W' → Ix .ret W' from fun W' h => HBAD.out W' (fun h2 => by
          obtain ⟨h4, h5, ns, h6, h7⟩ := h2
          have h8 := numsK_head (by rw [HM.out]; exact h6)
          have := HM.out
          omega) h)
        clear hsr
        gi_wp2
        gi_region
        all_goals
          gi_wp2
          exact ⟨(((((HK3.out.setCell (p := ⟨O, 0, none⟩) (by show O < D; omega) _).setCell (p := ⟨O, 1, none⟩) (by show O < D; omega) _).setCell (p := ⟨O, 2, none⟩) (by show O < D; omega) _).setCell (p := ⟨O + 1, 0, none⟩) (by show O + 1 < D; omega) _).setCell (p := ⟨O + 2, 0, none⟩) (by show O + 2 < D; omega) _).drew, HB2.out _ HS3.out.ret.drew⟩
    · by_cases hx : x0 = phases
      · have hqx : (x0.toList == [112, 104, 97, 115, 101, 115]) = true := by rw [hx, Go.ByteArray.toList_eq]; rfl
        clear hx
        gi_wp2_with (first | (refine ⟨trivial, ?_⟩; gi_at_call 53; (with_reducible refine (callsIn_round (HCS.out _)).mono ?_); rintro e w1 ⟨rfl, rfl⟩) | (refine ⟨trivial, ?_⟩; gi_at_call 54; (with_reducible refine (callsIn_round HSP.out).mono ?_); rintro e w2 ⟨rfl, hs2, hw2, hk2, hl2⟩; have HS2 := Lib.hid hs2; have HW2 := Lib.hid hw2; have HK2 := Lib.hid hk2; obtain ⟨c6, f6⟩ := hs2.n0; have cw := hw2.cell (j := 0) (by rw [HM.out]; omega); rw [HX0.out] at cw; clear hs2 hw2 hk2 c5 f5))
        refine wpIn_region_calm (fun ⟨_, _, h⟩ => h) (by kernel_rfl) (by kernel_rfl) (by kernel_rfl) ?_
        repeat (go_big_quiet_step (fail))
        refine wpQuiet_nil ?_
        rintro _ ⟨pp, rfl⟩
        have hbl := below_later w2 pp
        generalize later w2 pp = w3 at hbl ⊢
        have HS3 := Lib.hid (HS2.out.below hbl)
        have HW3 := Lib.hid (HW2.out.below hbl HW2.out.lt)
        have HK3 := Lib.hid (HK2.out.trans (KeepT.below (T := 3) (B := D) hbl))
        clear hbl c6 f6 cw
        gi_wp2
        gi_loopw [10, 53] (fun f i wr => f = .bool false ∧ i = .int .i64 0 ∧ wr = w3) (fun _ _ _ => 0)
        case atStart => exact ⟨rfl, rfl, rfl⟩
        case round =>
          obtain ⟨rfl, rfl, rfl⟩ := hrel
          have hsr := HS3.out
          obtain ⟨c7, f7⟩ := hsr.n0
          obtain ⟨g0, g0f⟩ := hsr.r0
          obtain ⟨g1, g1f⟩ := hsr.r1
          obtain ⟨g2, g2f⟩ := hsr.r2
          obtain ⟨g3, g3f⟩ := hsr.r3
          obtain ⟨g4, g4f⟩ := hsr.r4
          have HB2 := Lib.hid (show ∀ W', RetB w D O 1 W' → Ix .ret W' from fun W' h => HBAD.out W' (fun h2 => by
            obtain ⟨h4, h5, ns, h6, h7⟩ := h2
            have h8 := numsK_head (by rw [HM.out]; exact h6)
            have := HM.out
            omega) h)
          clear hsr
          gi_wp2
          gi_region
          all_goals
            gi_wp2
            exact ⟨(((((HK3.out.setCell (p := ⟨O, 0, none⟩) (by show O < D; omega) _).setCell (p := ⟨O, 1, none⟩) (by show O < D; omega) _).setCell (p := ⟨O, 2, none⟩) (by show O < D; omega) _).setCell (p := ⟨O + 1, 0, none⟩) (by show O + 1 < D; omega) _).setCell (p := ⟨O + 2, 0, none⟩) (by show O + 2 < D; omega) _).drew, HB2.out _ HS3.out.ret.drew⟩
      · have hqx : (x0.toList == [112, 104, 97, 115, 101, 115]) = false := beq_false_of_ne fun e => hx (by apply ByteArray.ext; apply Array.toList_inj.1; rw [← Go.ByteArray.toList_eq, e]; rfl)
        clear hx
        gi_wp2_with (first | (refine ⟨trivial, ?_⟩; gi_at_call 53; (with_reducible refine (callsIn_round (HCS.out _)).mono ?_); rintro e w1 ⟨rfl, rfl⟩) | (refine ⟨trivial, ?_⟩; gi_at_call 54; (with_reducible refine (callsIn_round HSP.out).mono ?_); rintro e w2 ⟨rfl, hs2, hw2, hk2, hl2⟩; have HS2 := Lib.hid hs2; have HW2 := Lib.hid hw2; have HK2 := Lib.hid hk2; obtain ⟨c6, f6⟩ := hs2.n0; have cw := hw2.cell (j := 0) (by rw [HM.out]; omega); rw [HX0.out] at cw; clear hs2 hw2 hk2 c5 f5))
        refine wpIn_region_calm (fun ⟨_, _, h⟩ => h) (by kernel_rfl) (by kernel_rfl) (by kernel_rfl) ?_
        repeat (go_big_quiet_step (fail))
        refine wpQuiet_nil ?_
        rintro _ ⟨pp, rfl⟩
        have hbl := below_later w2 pp
        generalize later w2 pp = w3 at hbl ⊢
        have HS3 := Lib.hid (HS2.out.below hbl)
        have HW3 := Lib.hid (HW2.out.below hbl HW2.out.lt)
        have HK3 := Lib.hid (HK2.out.trans (KeepT.below (T := 3) (B := D) hbl))
        clear hbl c6 f6 cw
        gi_wp2
        gi_loopw [10, 53] (fun f i wr => f = .bool false ∧ i = .int .i64 0 ∧ wr = w3) (fun _ _ _ => 0)
        case atStart => exact ⟨rfl, rfl, rfl⟩
        case round =>
          obtain ⟨rfl, rfl, rfl⟩ := hrel
          have hsr := HS3.out
          obtain ⟨c7, f7⟩ := hsr.n0
          obtain ⟨g0, g0f⟩ := hsr.r0
          obtain ⟨g1, g1f⟩ := hsr.r1
          obtain ⟨g2, g2f⟩ := hsr.r2
          obtain ⟨g3, g3f⟩ := hsr.r3
          obtain ⟨g4, g4f⟩ := hsr.r4
          have HB2 := Lib.hid (show ∀ W', RetB w D O 1 W' → Ix .ret W' from fun W' h => HBAD.out W' (fun h2 => by
            obtain ⟨h4, h5, ns, h6, h7⟩ := h2
            have h8 := numsK_head (by rw [HM.out]; exact h6)
            have := HM.out
            omega) h)
          clear hsr
          gi_wp2
          gi_region
          all_goals
            gi_wp2
            exact ⟨(((((HK3.out.setCell (p := ⟨O, 0, none⟩) (by show O < D; omega) _).setCell (p := ⟨O, 1, none⟩) (by show O < D; omega) _).setCell (p := ⟨O, 2, none⟩) (by show O < D; omega) _).setCell (p := ⟨O + 1, 0, none⟩) (by show O + 1 < D; omega) _).setCell (p := ⟨O + 2, 0, none⟩) (by show O + 2 < D; omega) _).drew, HB2.out _ HS3.out.ret.drew⟩
  · have hqp : 0 < q := by omega
    rcases (show b = false ∨ b = true by cases b <;> simp) with rfl | rfl
    · obtain ⟨E0, hE⟩ : ∃ E0, false = E0 := ⟨_, rfl⟩
      have HE0 := Lib.hid hE.symm
      have HE1 := Lib.hid (show false = true → textAt ws 0 = phases → q = 2 → E0 = true from fun h => by cases h)
      have HE2 := Lib.hid (show E0 = true → false = true ∧ textAt ws 0 = phases ∧ q = 2 from fun h => by rw [← hE] at h; cases h)
      clear hE
      gi_wp2_with (first | (refine ⟨trivial, ?_⟩; gi_at_call 53; (with_reducible refine (callsIn_round (HCS.out _)).mono ?_); rintro e w1 ⟨rfl, rfl⟩) | (refine ⟨trivial, ?_⟩; gi_at_call 54; (with_reducible refine (callsIn_round HSP.out).mono ?_); rintro e w2 ⟨rfl, hs2, hw2, hk2, hl2⟩; have HS2 := Lib.hid hs2; have HW2 := Lib.hid hw2; have HK2 := Lib.hid hk2; obtain ⟨c6, f6⟩ := hs2.n0; have cw := hw2.cell (j := 0) (by rw [HM.out]; omega); rw [HX0.out] at cw; clear hs2 hw2 hk2 c5 f5))
      refine wpIn_region_calm (fun ⟨_, _, h⟩ => h) (by kernel_rfl) (by kernel_rfl) (by kernel_rfl) ?_
      repeat (go_big_quiet_step (fail))
      refine wpQuiet_nil ?_
      rintro _ ⟨pp, rfl⟩
      have hbl := below_later w2 pp
      generalize later w2 pp = w3 at hbl ⊢
      have HS3 := Lib.hid (HS2.out.below hbl)
      have HW3 := Lib.hid (HW2.out.below hbl HW2.out.lt)
      have HK3 := Lib.hid (HK2.out.trans (KeepT.below (T := 3) (B := D) hbl))
      clear hbl c6 f6 cw
      gi_wp2
      gi_loopw [10, 53] (fun f i wr => ∃ (j : Nat) (R C : Int), j ≤ q ∧ i = .int .i64 j ∧ f = .bool (E0 && (numsK 0 ws (j + 1)).isSome) ∧ (∀ ns, numsK 0 ws (j + 1) = some ns → (1 ≤ j → intAt ns 0 = R) ∧ (2 ≤ j → intAt ns (j - 1) = C)) ∧ RdSt w D O B X 1 R C (.slice none 0 0) [] (.slice none 0 0) [] wr ∧ WrdB wr SB ws ∧ KeepT 3 D W wr) (fun _ i _ => q - (intOf i).toNat)
      case atStart => exact ⟨0, 0, 0, Nat.zero_le _, rfl, by rw [numsK_one]; first | rfl | (rw [HE0.out]; rfl), fun ns _ => ⟨fun h => absurd h (by omega), fun h => absurd h (by omega)⟩, HS3.out, HW3.out, HK3.out⟩
      case round =>
        obtain ⟨j, R, C, hj, rfl, rfl, hRC, hsr, hwr, hkr⟩ := hrel
        have HRC := Lib.hid hRC
        have HSR := Lib.hid hsr
        have HWR := Lib.hid hwr
        have HKR := Lib.hid hkr
        have hWlt := hwr.lt
        obtain ⟨eb, heb⟩ : ∃ eb, (E0 && (numsK 0 ws (j + 1)).isSome) = eb := ⟨_, rfl⟩
        have HEB := Lib.hid heb
        rw [heb]
        by_cases hlt : j < q
        · have hd1 : decide ((j : Int) < (q : Int)) = true := by simp; omega
          have hj1 : (j : Int) < (q : Int) := by omega
          obtain ⟨x, hx⟩ : ∃ x, textAt ws (j + 1) = x := ⟨_, rfl⟩
          have cx := hwr.cell (j := j + 1) (by rw [HM.out]; omega)
          rw [hx, Nat.add_comm j 1] at cx
          obtain ⟨c, hc⟩ : ∃ c, (phW x false).isSome = c := ⟨_, rfl⟩
          have HPH := Lib.hid (show Calls Tryz.prog 55 #[.string x, .bool false] wr fun e w' => ∃ p : Int, e = .returned (.tuple #[.int .i64 p, .bool c]) ∧ (∀ v, phW x false = some v → p = v) ∧ Below wr.heap.size wr w' from by
            rw [← hc]
            exact phase_any x false wr (by have := HWZ.out (j + 1); rw [hx] at this; omega) (HT.out.below hsr.bel))
          have HR0 := Lib.hid (show wordP 0 x = phW x false from rfl)
          have HNX := Lib.hid (numsK_succ 0 ws (j + 1) (by rw [HM.out]; omega) (by omega))
          rw [hx] at HNX
          have HSO := Lib.hid (snoc_isSome HNX.out)
          rw [HR0.out, hc] at HSO
          clear hRC hsr hwr hkr hx hc heb
          by_cases hj0 : j = 0
          · have hje : ((j : Int) == 0) = true := by simp; omega
            have HJ0 := Lib.hid hj0
            clear hj0
            cases eb
            all_goals
              gi_wp2_with (first | (refine ⟨trivial, ?_⟩; gi_at_call 55; (with_reducible refine (callsIn_round HPH.out).mono ?_); rintro e w4 ⟨p, rfl, hp, hb⟩; have HS4 := Lib.hid (HSR.out.below hb); have HW4 := Lib.hid (HWR.out.below hb hWlt); have HK4 := Lib.hid (HKR.out.trans (KeepT.below (T := 3) (B := D) hb)); have HP := Lib.hid hp; obtain ⟨c30, f30⟩ := HS4.out.m0; obtain ⟨c31, f31⟩ := HS4.out.m1; have hz4 := hb.size; clear hp hb cx))
              have hpo := HS4.out.hi
              have hpd := HS4.out.hd
              have HN := Lib.hid (show ∀ ns, numsK 0 ws (j + 1 + 1) = some ns → ∃ ms, numsK 0 ws (j + 1) = some ms ∧ ns = ms ++ [p] ∧ ms.length = j from fun ns h => by
                rw [HNX.out] at h
                cases hms : numsK 0 ws (j + 1) with
                | none => rw [hms] at h; cases h
                | some ms =>
                  rw [hms] at h
                  cases hr : wordP 0 x with
                  | none => rw [hr] at h; cases h
                  | some z =>
                    rw [hr] at h
                    injection h with h
                    refine ⟨ms, rfl, ?_, ?_⟩
                    · rw [← h, HP.out z (by rw [← HR0.out]; exact hr)]
                    · have h1 := allO_len _ _ hms
                      rw [List.length_map] at h1
                      unfold lookW at h1
                      rw [if_pos rfl, List.length_drop, List.length_take] at h1
                      have := HM.out
                      omega)
              go_roundw
              case rel => exact ⟨j + 1, p, C, by omega, by go_num, by rw [HSO.out, ← Bool.and_assoc, HEB.out]; first | rfl | simp, fun ns h => ⟨fun _ => by obtain ⟨ms, -, rfl, hl⟩ := HN.out ns h; rw [HJ0.out] at hl; rw [List.length_eq_zero_iff.1 hl]; rfl, fun h => by have := HJ0.out; omega⟩, HS4.out.rows p, HW4.out.other (by have := HSB.out; omega) _, HK4.out.setCell (p := ⟨O + 3, 0, none⟩) (by show O + 3 < D; omega) _⟩
              case measure => simp [intOf]; omega
          · have hje : ((j : Int) == 0) = false := by simp; omega
            have HJ0 := Lib.hid hj0
            clear hj0
            cases eb
            all_goals
              gi_wp2_with (first | (refine ⟨trivial, ?_⟩; gi_at_call 55; (with_reducible refine (callsIn_round HPH.out).mono ?_); rintro e w4 ⟨p, rfl, hp, hb⟩; have HS4 := Lib.hid (HSR.out.below hb); have HW4 := Lib.hid (HWR.out.below hb hWlt); have HK4 := Lib.hid (HKR.out.trans (KeepT.below (T := 3) (B := D) hb)); have HP := Lib.hid hp; obtain ⟨c30, f30⟩ := HS4.out.m0; obtain ⟨c31, f31⟩ := HS4.out.m1; have hz4 := hb.size; clear hp hb cx))
              have hpo := HS4.out.hi
              have hpd := HS4.out.hd
              have HN := Lib.hid (show ∀ ns, numsK 0 ws (j + 1 + 1) = some ns → ∃ ms, numsK 0 ws (j + 1) = some ms ∧ ns = ms ++ [p] ∧ ms.length = j from fun ns h => by
                rw [HNX.out] at h
                cases hms : numsK 0 ws (j + 1) with
                | none => rw [hms] at h; cases h
                | some ms =>
                  rw [hms] at h
                  cases hr : wordP 0 x with
                  | none => rw [hr] at h; cases h
                  | some z =>
                    rw [hr] at h
                    injection h with h
                    refine ⟨ms, rfl, ?_, ?_⟩
                    · rw [← h, HP.out z (by rw [← HR0.out]; exact hr)]
                    · have h1 := allO_len _ _ hms
                      rw [List.length_map] at h1
                      unfold lookW at h1
                      rw [if_pos rfl, List.length_drop, List.length_take] at h1
                      have := HM.out
                      omega)
              go_roundw
              case rel => exact ⟨j + 1, R, p, by omega, by go_num, by rw [HSO.out, ← Bool.and_assoc, HEB.out]; first | rfl | simp, fun ns h => ⟨fun _ => by obtain ⟨ms, h1, rfl, hl⟩ := HN.out ns h; rw [← (HRC.out ms h1).1 (by have := HJ0.out; omega)]; unfold intAt; rw [List.getElem?_append_left (by have := HJ0.out; omega)], fun _ => by obtain ⟨ms, h1, rfl, hl⟩ := HN.out ns h; unfold intAt; rw [List.getElem?_append_right (by omega)]; simp [hl]⟩, HS4.out.columns p, HW4.out.other (by have := HSB.out; omega) _, HK4.out.setCell (p := ⟨O + 3, 1, none⟩) (by show O + 3 < D; omega) _⟩
              case measure => simp [intOf]; omega
        · have hd1 : decide ((j : Int) < (q : Int)) = false := by simp; omega
          have hje : j = q := by omega
          obtain ⟨c7, f7⟩ := hsr.n0
          obtain ⟨g0, g0f⟩ := hsr.r0
          obtain ⟨g1, g1f⟩ := hsr.r1
          obtain ⟨g2, g2f⟩ := hsr.r2
          obtain ⟨g3, g3f⟩ := hsr.r3
          obtain ⟨g4, g4f⟩ := hsr.r4
          have hpo := hsr.hi
          have hpd := hsr.hd
          clear hRC hsr hwr hkr heb
          cases eb
          · have HB2 := Lib.hid (show ∀ W', RetB w D O 1 W' → Ix .ret W' from fun W' h => HBAD.out W' (fun h2 => by
              have h3 := HEB.out
              obtain ⟨h4, h5, ns, h6, h7⟩ := h2
              have h8 := numsK_head (by rw [HM.out]; exact h6)
              rw [hje, h6, HE1.out h4 h5 (by have := HM.out; omega)] at h3
              cases h3) h)
            gi_wp2
            gi_region
            all_goals
              gi_wp2
              exact ⟨(((((HKR.out.setCell (p := ⟨O, 0, none⟩) (by show O < D; omega) _).setCell (p := ⟨O, 1, none⟩) (by show O < D; omega) _).setCell (p := ⟨O, 2, none⟩) (by show O < D; omega) _).setCell (p := ⟨O + 1, 0, none⟩) (by show O + 1 < D; omega) _).setCell (p := ⟨O + 2, 0, none⟩) (by show O + 2 < D; omega) _).drew, HB2.out _ HSR.out.ret.drew⟩
          · have HG2 := Lib.hid (show I wr from by
              have h3 := HEB.out
              rw [Bool.and_eq_true, hje] at h3
              obtain ⟨ns, hns⟩ := Option.isSome_iff_exists.1 h3.2
              obtain ⟨h4, h5, h6⟩ := HE2.out h3.1
              have h8 := numsK_head (by rw [HM.out]; exact hns)
              have hl : ns.length = 2 := by have := HM.out; omega
              have h9 := HRC.out ns (by rw [hje]; exact hns)
              have e1 := h9.1 (by have := HM.out; omega)
              have e2 := h9.2 (by have := HM.out; omega)
              rw [show j - 1 = 1 by have := HM.out; omega] at e2
              exact HGO.out wr ns h4 h5 hns hl (by rw [e1, e2]; exact HSR.out))
            gi_wp2
            exact ⟨HKR.out, HG2.out⟩
    · by_cases hx : x0 = phases
      · have hqx : (x0.toList == [112, 104, 97, 115, 101, 115]) = true := by rw [hx, Go.ByteArray.toList_eq]; rfl
        have HX := Lib.hid hx
        clear hx
        by_cases h3 : q = 2
        · have hq3 : ((q : Int) + 1 == 3) = true := by simp; omega
          have HQ3 := Lib.hid h3
          clear h3
          obtain ⟨E0, hE⟩ : ∃ E0, true = E0 := ⟨_, rfl⟩
          have HE0 := Lib.hid hE.symm
          have HE1 := Lib.hid (show true = true → textAt ws 0 = phases → q = 2 → E0 = true from fun _ _ _ => hE.symm)
          have HE2 := Lib.hid (show E0 = true → true = true ∧ textAt ws 0 = phases ∧ q = 2 from fun h => ⟨rfl, by rw [HX0.out, HX.out], HQ3.out⟩)
          clear hE
          gi_wp2_with (first | (refine ⟨trivial, ?_⟩; gi_at_call 53; (with_reducible refine (callsIn_round (HCS.out _)).mono ?_); rintro e w1 ⟨rfl, rfl⟩) | (refine ⟨trivial, ?_⟩; gi_at_call 54; (with_reducible refine (callsIn_round HSP.out).mono ?_); rintro e w2 ⟨rfl, hs2, hw2, hk2, hl2⟩; have HS2 := Lib.hid hs2; have HW2 := Lib.hid hw2; have HK2 := Lib.hid hk2; obtain ⟨c6, f6⟩ := hs2.n0; have cw := hw2.cell (j := 0) (by rw [HM.out]; omega); rw [HX0.out] at cw; clear hs2 hw2 hk2 c5 f5))
          refine wpIn_region_calm (fun ⟨_, _, h⟩ => h) (by kernel_rfl) (by kernel_rfl) (by kernel_rfl) ?_
          repeat (go_big_quiet_step (fail))
          refine wpQuiet_nil ?_
          rintro _ ⟨pp, rfl⟩
          have hbl := below_later w2 pp
          generalize later w2 pp = w3 at hbl ⊢
          have HS3 := Lib.hid (HS2.out.below hbl)
          have HW3 := Lib.hid (HW2.out.below hbl HW2.out.lt)
          have HK3 := Lib.hid (HK2.out.trans (KeepT.below (T := 3) (B := D) hbl))
          clear hbl c6 f6 cw
          gi_wp2
          gi_loopw [10, 53] (fun f i wr => ∃ (j : Nat) (R C : Int), j ≤ q ∧ i = .int .i64 j ∧ f = .bool (E0 && (numsK 0 ws (j + 1)).isSome) ∧ (∀ ns, numsK 0 ws (j + 1) = some ns → (1 ≤ j → intAt ns 0 = R) ∧ (2 ≤ j → intAt ns (j - 1) = C)) ∧ RdSt w D O B X 1 R C (.slice none 0 0) [] (.slice none 0 0) [] wr ∧ WrdB wr SB ws ∧ KeepT 3 D W wr) (fun _ i _ => q - (intOf i).toNat)
          case atStart => exact ⟨0, 0, 0, Nat.zero_le _, rfl, by rw [numsK_one]; first | rfl | (rw [HE0.out]; rfl), fun ns _ => ⟨fun h => absurd h (by omega), fun h => absurd h (by omega)⟩, HS3.out, HW3.out, HK3.out⟩
          case round =>
            obtain ⟨j, R, C, hj, rfl, rfl, hRC, hsr, hwr, hkr⟩ := hrel
            have HRC := Lib.hid hRC
            have HSR := Lib.hid hsr
            have HWR := Lib.hid hwr
            have HKR := Lib.hid hkr
            have hWlt := hwr.lt
            obtain ⟨eb, heb⟩ : ∃ eb, (E0 && (numsK 0 ws (j + 1)).isSome) = eb := ⟨_, rfl⟩
            have HEB := Lib.hid heb
            rw [heb]
            by_cases hlt : j < q
            · have hd1 : decide ((j : Int) < (q : Int)) = true := by simp; omega
              have hj1 : (j : Int) < (q : Int) := by omega
              obtain ⟨x, hx⟩ : ∃ x, textAt ws (j + 1) = x := ⟨_, rfl⟩
              have cx := hwr.cell (j := j + 1) (by rw [HM.out]; omega)
              rw [hx, Nat.add_comm j 1] at cx
              obtain ⟨c, hc⟩ : ∃ c, (phW x false).isSome = c := ⟨_, rfl⟩
              have HPH := Lib.hid (show Calls Tryz.prog 55 #[.string x, .bool false] wr fun e w' => ∃ p : Int, e = .returned (.tuple #[.int .i64 p, .bool c]) ∧ (∀ v, phW x false = some v → p = v) ∧ Below wr.heap.size wr w' from by
                rw [← hc]
                exact phase_any x false wr (by have := HWZ.out (j + 1); rw [hx] at this; omega) (HT.out.below hsr.bel))
              have HR0 := Lib.hid (show wordP 0 x = phW x false from rfl)
              have HNX := Lib.hid (numsK_succ 0 ws (j + 1) (by rw [HM.out]; omega) (by omega))
              rw [hx] at HNX
              have HSO := Lib.hid (snoc_isSome HNX.out)
              rw [HR0.out, hc] at HSO
              clear hRC hsr hwr hkr hx hc heb
              by_cases hj0 : j = 0
              · have hje : ((j : Int) == 0) = true := by simp; omega
                have HJ0 := Lib.hid hj0
                clear hj0
                cases eb
                all_goals
                  gi_wp2_with (first | (refine ⟨trivial, ?_⟩; gi_at_call 55; (with_reducible refine (callsIn_round HPH.out).mono ?_); rintro e w4 ⟨p, rfl, hp, hb⟩; have HS4 := Lib.hid (HSR.out.below hb); have HW4 := Lib.hid (HWR.out.below hb hWlt); have HK4 := Lib.hid (HKR.out.trans (KeepT.below (T := 3) (B := D) hb)); have HP := Lib.hid hp; obtain ⟨c30, f30⟩ := HS4.out.m0; obtain ⟨c31, f31⟩ := HS4.out.m1; have hz4 := hb.size; clear hp hb cx))
                  have hpo := HS4.out.hi
                  have hpd := HS4.out.hd
                  have HN := Lib.hid (show ∀ ns, numsK 0 ws (j + 1 + 1) = some ns → ∃ ms, numsK 0 ws (j + 1) = some ms ∧ ns = ms ++ [p] ∧ ms.length = j from fun ns h => by
                    rw [HNX.out] at h
                    cases hms : numsK 0 ws (j + 1) with
                    | none => rw [hms] at h; cases h
                    | some ms =>
                      rw [hms] at h
                      cases hr : wordP 0 x with
                      | none => rw [hr] at h; cases h
                      | some z =>
                        rw [hr] at h
                        injection h with h
                        refine ⟨ms, rfl, ?_, ?_⟩
                        · rw [← h, HP.out z (by rw [← HR0.out]; exact hr)]
                        · have h1 := allO_len _ _ hms
                          rw [List.length_map] at h1
                          unfold lookW at h1
                          rw [if_pos rfl, List.length_drop, List.length_take] at h1
                          have := HM.out
                          omega)
                  go_roundw
                  case rel => exact ⟨j + 1, p, C, by omega, by go_num, by rw [HSO.out, ← Bool.and_assoc, HEB.out]; first | rfl | simp, fun ns h => ⟨fun _ => by obtain ⟨ms, -, rfl, hl⟩ := HN.out ns h; rw [HJ0.out] at hl; rw [List.length_eq_zero_iff.1 hl]; rfl, fun h => by have := HJ0.out; omega⟩, HS4.out.rows p, HW4.out.other (by have := HSB.out; omega) _, HK4.out.setCell (p := ⟨O + 3, 0, none⟩) (by show O + 3 < D; omega) _⟩
                  case measure => simp [intOf]; omega
              · have hje : ((j : Int) == 0) = false := by simp; omega
                have HJ0 := Lib.hid hj0
                clear hj0
                cases eb
                all_goals
                  gi_wp2_with (first | (refine ⟨trivial, ?_⟩; gi_at_call 55; (with_reducible refine (callsIn_round HPH.out).mono ?_); rintro e w4 ⟨p, rfl, hp, hb⟩; have HS4 := Lib.hid (HSR.out.below hb); have HW4 := Lib.hid (HWR.out.below hb hWlt); have HK4 := Lib.hid (HKR.out.trans (KeepT.below (T := 3) (B := D) hb)); have HP := Lib.hid hp; obtain ⟨c30, f30⟩ := HS4.out.m0; obtain ⟨c31, f31⟩ := HS4.out.m1; have hz4 := hb.size; clear hp hb cx))
                  have hpo := HS4.out.hi
                  have hpd := HS4.out.hd
                  have HN := Lib.hid (show ∀ ns, numsK 0 ws (j + 1 + 1) = some ns → ∃ ms, numsK 0 ws (j + 1) = some ms ∧ ns = ms ++ [p] ∧ ms.length = j from fun ns h => by
                    rw [HNX.out] at h
                    cases hms : numsK 0 ws (j + 1) with
                    | none => rw [hms] at h; cases h
                    | some ms =>
                      rw [hms] at h
                      cases hr : wordP 0 x with
                      | none => rw [hr] at h; cases h
                      | some z =>
                        rw [hr] at h
                        injection h with h
                        refine ⟨ms, rfl, ?_, ?_⟩
                        · rw [← h, HP.out z (by rw [← HR0.out]; exact hr)]
                        · have h1 := allO_len _ _ hms
                          rw [List.length_map] at h1
                          unfold lookW at h1
                          rw [if_pos rfl, List.length_drop, List.length_take] at h1
                          have := HM.out
                          omega)
                  go_roundw
                  case rel => exact ⟨j + 1, R, p, by omega, by go_num, by rw [HSO.out, ← Bool.and_assoc, HEB.out]; first | rfl | simp, fun ns h => ⟨fun _ => by obtain ⟨ms, h1, rfl, hl⟩ := HN.out ns h; rw [← (HRC.out ms h1).1 (by have := HJ0.out; omega)]; unfold intAt; rw [List.getElem?_append_left (by have := HJ0.out; omega)], fun _ => by obtain ⟨ms, h1, rfl, hl⟩ := HN.out ns h; unfold intAt; rw [List.getElem?_append_right (by omega)]; simp [hl]⟩, HS4.out.columns p, HW4.out.other (by have := HSB.out; omega) _, HK4.out.setCell (p := ⟨O + 3, 1, none⟩) (by show O + 3 < D; omega) _⟩
                  case measure => simp [intOf]; omega
            · have hd1 : decide ((j : Int) < (q : Int)) = false := by simp; omega
              have hje : j = q := by omega
              obtain ⟨c7, f7⟩ := hsr.n0
              obtain ⟨g0, g0f⟩ := hsr.r0
              obtain ⟨g1, g1f⟩ := hsr.r1
              obtain ⟨g2, g2f⟩ := hsr.r2
              obtain ⟨g3, g3f⟩ := hsr.r3
              obtain ⟨g4, g4f⟩ := hsr.r4
              have hpo := hsr.hi
              have hpd := hsr.hd
              clear hRC hsr hwr hkr heb
              cases eb
              · have HB2 := Lib.hid (show ∀ W', RetB w D O 1 W' → Ix .ret W' from fun W' h => HBAD.out W' (fun h2 => by
                  have h3 := HEB.out
                  obtain ⟨h4, h5, ns, h6, h7⟩ := h2
                  have h8 := numsK_head (by rw [HM.out]; exact h6)
                  rw [hje, h6, HE1.out h4 h5 (by have := HM.out; omega)] at h3
                  cases h3) h)
                gi_wp2
                gi_region
                all_goals
                  gi_wp2
                  exact ⟨(((((HKR.out.setCell (p := ⟨O, 0, none⟩) (by show O < D; omega) _).setCell (p := ⟨O, 1, none⟩) (by show O < D; omega) _).setCell (p := ⟨O, 2, none⟩) (by show O < D; omega) _).setCell (p := ⟨O + 1, 0, none⟩) (by show O + 1 < D; omega) _).setCell (p := ⟨O + 2, 0, none⟩) (by show O + 2 < D; omega) _).drew, HB2.out _ HSR.out.ret.drew⟩
              · have HG2 := Lib.hid (show I wr from by
                  have h3 := HEB.out
                  rw [Bool.and_eq_true, hje] at h3
                  obtain ⟨ns, hns⟩ := Option.isSome_iff_exists.1 h3.2
                  obtain ⟨h4, h5, h6⟩ := HE2.out h3.1
                  have h8 := numsK_head (by rw [HM.out]; exact hns)
                  have hl : ns.length = 2 := by have := HM.out; omega
                  have h9 := HRC.out ns (by rw [hje]; exact hns)
                  have e1 := h9.1 (by have := HM.out; omega)
                  have e2 := h9.2 (by have := HM.out; omega)
                  rw [show j - 1 = 1 by have := HM.out; omega] at e2
                  exact HGO.out wr ns h4 h5 hns hl (by rw [e1, e2]; exact HSR.out))
                gi_wp2
                exact ⟨HKR.out, HG2.out⟩
        · have hq3 : ((q : Int) + 1 == 3) = false := by simp; omega
          have HQ3 := Lib.hid h3
          clear h3
          obtain ⟨E0, hE⟩ : ∃ E0, false = E0 := ⟨_, rfl⟩
          have HE0 := Lib.hid hE.symm
          have HE1 := Lib.hid (show true = true → textAt ws 0 = phases → q = 2 → E0 = true from fun _ _ h => absurd h HQ3.out)
          have HE2 := Lib.hid (show E0 = true → true = true ∧ textAt ws 0 = phases ∧ q = 2 from fun h => by rw [← hE] at h; cases h)
          clear hE
          gi_wp2_with (first | (refine ⟨trivial, ?_⟩; gi_at_call 53; (with_reducible refine (callsIn_round (HCS.out _)).mono ?_); rintro e w1 ⟨rfl, rfl⟩) | (refine ⟨trivial, ?_⟩; gi_at_call 54; (with_reducible refine (callsIn_round HSP.out).mono ?_); rintro e w2 ⟨rfl, hs2, hw2, hk2, hl2⟩; have HS2 := Lib.hid hs2; have HW2 := Lib.hid hw2; have HK2 := Lib.hid hk2; obtain ⟨c6, f6⟩ := hs2.n0; have cw := hw2.cell (j := 0) (by rw [HM.out]; omega); rw [HX0.out] at cw; clear hs2 hw2 hk2 c5 f5))
          refine wpIn_region_calm (fun ⟨_, _, h⟩ => h) (by kernel_rfl) (by kernel_rfl) (by kernel_rfl) ?_
          repeat (go_big_quiet_step (fail))
          refine wpQuiet_nil ?_
          rintro _ ⟨pp, rfl⟩
          have hbl := below_later w2 pp
          generalize later w2 pp = w3 at hbl ⊢
          have HS3 := Lib.hid (HS2.out.below hbl)
          have HW3 := Lib.hid (HW2.out.below hbl HW2.out.lt)
          have HK3 := Lib.hid (HK2.out.trans (KeepT.below (T := 3) (B := D) hbl))
          clear hbl c6 f6 cw
          gi_wp2
          gi_loopw [10, 53] (fun f i wr => ∃ (j : Nat) (R C : Int), j ≤ q ∧ i = .int .i64 j ∧ f = .bool (E0 && (numsK 0 ws (j + 1)).isSome) ∧ (∀ ns, numsK 0 ws (j + 1) = some ns → (1 ≤ j → intAt ns 0 = R) ∧ (2 ≤ j → intAt ns (j - 1) = C)) ∧ RdSt w D O B X 1 R C (.slice none 0 0) [] (.slice none 0 0) [] wr ∧ WrdB wr SB ws ∧ KeepT 3 D W wr) (fun _ i _ => q - (intOf i).toNat)
          case atStart => exact ⟨0, 0, 0, Nat.zero_le _, rfl, by rw [numsK_one]; first | rfl | (rw [HE0.out]; rfl), fun ns _ => ⟨fun h => absurd h (by omega), fun h => absurd h (by omega)⟩, HS3.out, HW3.out, HK3.out⟩
          case round =>
            obtain ⟨j, R, C, hj, rfl, rfl, hRC, hsr, hwr, hkr⟩ := hrel
            have HRC := Lib.hid hRC
            have HSR := Lib.hid hsr
            have HWR := Lib.hid hwr
            have HKR := Lib.hid hkr
            have hWlt := hwr.lt
            obtain ⟨eb, heb⟩ : ∃ eb, (E0 && (numsK 0 ws (j + 1)).isSome) = eb := ⟨_, rfl⟩
            have HEB := Lib.hid heb
            rw [heb]
            by_cases hlt : j < q
            · have hd1 : decide ((j : Int) < (q : Int)) = true := by simp; omega
              have hj1 : (j : Int) < (q : Int) := by omega
              obtain ⟨x, hx⟩ : ∃ x, textAt ws (j + 1) = x := ⟨_, rfl⟩
              have cx := hwr.cell (j := j + 1) (by rw [HM.out]; omega)
              rw [hx, Nat.add_comm j 1] at cx
              obtain ⟨c, hc⟩ : ∃ c, (phW x false).isSome = c := ⟨_, rfl⟩
              have HPH := Lib.hid (show Calls Tryz.prog 55 #[.string x, .bool false] wr fun e w' => ∃ p : Int, e = .returned (.tuple #[.int .i64 p, .bool c]) ∧ (∀ v, phW x false = some v → p = v) ∧ Below wr.heap.size wr w' from by
                rw [← hc]
                exact phase_any x false wr (by have := HWZ.out (j + 1); rw [hx] at this; omega) (HT.out.below hsr.bel))
              have HR0 := Lib.hid (show wordP 0 x = phW x false from rfl)
              have HNX := Lib.hid (numsK_succ 0 ws (j + 1) (by rw [HM.out]; omega) (by omega))
              rw [hx] at HNX
              have HSO := Lib.hid (snoc_isSome HNX.out)
              rw [HR0.out, hc] at HSO
              clear hRC hsr hwr hkr hx hc heb
              by_cases hj0 : j = 0
              · have hje : ((j : Int) == 0) = true := by simp; omega
                have HJ0 := Lib.hid hj0
                clear hj0
                cases eb
                all_goals
                  gi_wp2_with (first | (refine ⟨trivial, ?_⟩; gi_at_call 55; (with_reducible refine (callsIn_round HPH.out).mono ?_); rintro e w4 ⟨p, rfl, hp, hb⟩; have HS4 := Lib.hid (HSR.out.below hb); have HW4 := Lib.hid (HWR.out.below hb hWlt); have HK4 := Lib.hid (HKR.out.trans (KeepT.below (T := 3) (B := D) hb)); have HP := Lib.hid hp; obtain ⟨c30, f30⟩ := HS4.out.m0; obtain ⟨c31, f31⟩ := HS4.out.m1; have hz4 := hb.size; clear hp hb cx))
                  have hpo := HS4.out.hi
                  have hpd := HS4.out.hd
                  have HN := Lib.hid (show ∀ ns, numsK 0 ws (j + 1 + 1) = some ns → ∃ ms, numsK 0 ws (j + 1) = some ms ∧ ns = ms ++ [p] ∧ ms.length = j from fun ns h => by
                    rw [HNX.out] at h
                    cases hms : numsK 0 ws (j + 1) with
                    | none => rw [hms] at h; cases h
                    | some ms =>
                      rw [hms] at h
                      cases hr : wordP 0 x with
                      | none => rw [hr] at h; cases h
                      | some z =>
                        rw [hr] at h
                        injection h with h
                        refine ⟨ms, rfl, ?_, ?_⟩
                        · rw [← h, HP.out z (by rw [← HR0.out]; exact hr)]
                        · have h1 := allO_len _ _ hms
                          rw [List.length_map] at h1
                          unfold lookW at h1
                          rw [if_pos rfl, List.length_drop, List.length_take] at h1
                          have := HM.out
                          omega)
                  go_roundw
                  case rel => exact ⟨j + 1, p, C, by omega, by go_num, by rw [HSO.out, ← Bool.and_assoc, HEB.out]; first | rfl | simp, fun ns h => ⟨fun _ => by obtain ⟨ms, -, rfl, hl⟩ := HN.out ns h; rw [HJ0.out] at hl; rw [List.length_eq_zero_iff.1 hl]; rfl, fun h => by have := HJ0.out; omega⟩, HS4.out.rows p, HW4.out.other (by have := HSB.out; omega) _, HK4.out.setCell (p := ⟨O + 3, 0, none⟩) (by show O + 3 < D; omega) _⟩
                  case measure => simp [intOf]; omega
              · have hje : ((j : Int) == 0) = false := by simp; omega
                have HJ0 := Lib.hid hj0
                clear hj0
                cases eb
                all_goals
                  gi_wp2_with (first | (refine ⟨trivial, ?_⟩; gi_at_call 55; (with_reducible refine (callsIn_round HPH.out).mono ?_); rintro e w4 ⟨p, rfl, hp, hb⟩; have HS4 := Lib.hid (HSR.out.below hb); have HW4 := Lib.hid (HWR.out.below hb hWlt); have HK4 := Lib.hid (HKR.out.trans (KeepT.below (T := 3) (B := D) hb)); have HP := Lib.hid hp; obtain ⟨c30, f30⟩ := HS4.out.m0; obtain ⟨c31, f31⟩ := HS4.out.m1; have hz4 := hb.size; clear hp hb cx))
                  have hpo := HS4.out.hi
                  have hpd := HS4.out.hd
                  have HN := Lib.hid (show ∀ ns, numsK 0 ws (j + 1 + 1) = some ns → ∃ ms, numsK 0 ws (j + 1) = some ms ∧ ns = ms ++ [p] ∧ ms.length = j from fun ns h => by
                    rw [HNX.out] at h
                    cases hms : numsK 0 ws (j + 1) with
                    | none => rw [hms] at h; cases h
                    | some ms =>
                      rw [hms] at h
                      cases hr : wordP 0 x with
                      | none => rw [hr] at h; cases h
                      | some z =>
                        rw [hr] at h
                        injection h with h
                        refine ⟨ms, rfl, ?_, ?_⟩
                        · rw [← h, HP.out z (by rw [← HR0.out]; exact hr)]
                        · have h1 := allO_len _ _ hms
                          rw [List.length_map] at h1
                          unfold lookW at h1
                          rw [if_pos rfl, List.length_drop, List.length_take] at h1
                          have := HM.out
                          omega)
                  go_roundw
                  case rel => exact ⟨j + 1, R, p, by omega, by go_num, by rw [HSO.out, ← Bool.and_assoc, HEB.out]; first | rfl | simp, fun ns h => ⟨fun _ => by obtain ⟨ms, h1, rfl, hl⟩ := HN.out ns h; rw [← (HRC.out ms h1).1 (by have := HJ0.out; omega)]; unfold intAt; rw [List.getElem?_append_left (by have := HJ0.out; omega)], fun _ => by obtain ⟨ms, h1, rfl, hl⟩ := HN.out ns h; unfold intAt; rw [List.getElem?_append_right (by omega)]; simp [hl]⟩, HS4.out.columns p, HW4.out.other (by have := HSB.out; omega) _, HK4.out.setCell (p := ⟨O + 3, 1, none⟩) (by show O + 3 < D; omega) _⟩
                  case measure => simp [intOf]; omega
            · have hd1 : decide ((j : Int) < (q : Int)) = false := by simp; omega
              have hje : j = q := by omega
              obtain ⟨c7, f7⟩ := hsr.n0
              obtain ⟨g0, g0f⟩ := hsr.r0
              obtain ⟨g1, g1f⟩ := hsr.r1
              obtain ⟨g2, g2f⟩ := hsr.r2
              obtain ⟨g3, g3f⟩ := hsr.r3
              obtain ⟨g4, g4f⟩ := hsr.r4
              have hpo := hsr.hi
              have hpd := hsr.hd
              clear hRC hsr hwr hkr heb
              cases eb
              · have HB2 := Lib.hid (show ∀ W', RetB w D O 1 W' → Ix .ret W' from fun W' h => HBAD.out W' (fun h2 => by
                  have h3 := HEB.out
                  obtain ⟨h4, h5, ns, h6, h7⟩ := h2
                  have h8 := numsK_head (by rw [HM.out]; exact h6)
                  rw [hje, h6, HE1.out h4 h5 (by have := HM.out; omega)] at h3
                  cases h3) h)
                gi_wp2
                gi_region
                all_goals
                  gi_wp2
                  exact ⟨(((((HKR.out.setCell (p := ⟨O, 0, none⟩) (by show O < D; omega) _).setCell (p := ⟨O, 1, none⟩) (by show O < D; omega) _).setCell (p := ⟨O, 2, none⟩) (by show O < D; omega) _).setCell (p := ⟨O + 1, 0, none⟩) (by show O + 1 < D; omega) _).setCell (p := ⟨O + 2, 0, none⟩) (by show O + 2 < D; omega) _).drew, HB2.out _ HSR.out.ret.drew⟩
              · have HG2 := Lib.hid (show I wr from by
                  have h3 := HEB.out
                  rw [Bool.and_eq_true, hje] at h3
                  obtain ⟨ns, hns⟩ := Option.isSome_iff_exists.1 h3.2
                  obtain ⟨h4, h5, h6⟩ := HE2.out h3.1
                  have h8 := numsK_head (by rw [HM.out]; exact hns)
                  have hl : ns.length = 2 := by have := HM.out; omega
                  have h9 := HRC.out ns (by rw [hje]; exact hns)
                  have e1 := h9.1 (by have := HM.out; omega)
                  have e2 := h9.2 (by have := HM.out; omega)
                  rw [show j - 1 = 1 by have := HM.out; omega] at e2
                  exact HGO.out wr ns h4 h5 hns hl (by rw [e1, e2]; exact HSR.out))
                gi_wp2
                exact ⟨HKR.out, HG2.out⟩
      · have hqx : (x0.toList == [112, 104, 97, 115, 101, 115]) = false := beq_false_of_ne fun e => hx (by apply ByteArray.ext; apply Array.toList_inj.1; rw [← Go.ByteArray.toList_eq, e]; rfl)
        have HX := Lib.hid hx
        clear hx
        obtain ⟨E0, hE⟩ : ∃ E0, false = E0 := ⟨_, rfl⟩
        have HE0 := Lib.hid hE.symm
        have HE1 := Lib.hid (show true = true → textAt ws 0 = phases → q = 2 → E0 = true from fun _ h _ => absurd (by rw [← HX0.out]; exact h) HX.out)
        have HE2 := Lib.hid (show E0 = true → true = true ∧ textAt ws 0 = phases ∧ q = 2 from fun h => by rw [← hE] at h; cases h)
        clear hE
        gi_wp2_with (first | (refine ⟨trivial, ?_⟩; gi_at_call 53; (with_reducible refine (callsIn_round (HCS.out _)).mono ?_); rintro e w1 ⟨rfl, rfl⟩) | (refine ⟨trivial, ?_⟩; gi_at_call 54; (with_reducible refine (callsIn_round HSP.out).mono ?_); rintro e w2 ⟨rfl, hs2, hw2, hk2, hl2⟩; have HS2 := Lib.hid hs2; have HW2 := Lib.hid hw2; have HK2 := Lib.hid hk2; obtain ⟨c6, f6⟩ := hs2.n0; have cw := hw2.cell (j := 0) (by rw [HM.out]; omega); rw [HX0.out] at cw; clear hs2 hw2 hk2 c5 f5))
        refine wpIn_region_calm (fun ⟨_, _, h⟩ => h) (by kernel_rfl) (by kernel_rfl) (by kernel_rfl) ?_
        repeat (go_big_quiet_step (fail))
        refine wpQuiet_nil ?_
        rintro _ ⟨pp, rfl⟩
        have hbl := below_later w2 pp
        generalize later w2 pp = w3 at hbl ⊢
        have HS3 := Lib.hid (HS2.out.below hbl)
        have HW3 := Lib.hid (HW2.out.below hbl HW2.out.lt)
        have HK3 := Lib.hid (HK2.out.trans (KeepT.below (T := 3) (B := D) hbl))
        clear hbl c6 f6 cw
        gi_wp2
        gi_loopw [10, 53] (fun f i wr => ∃ (j : Nat) (R C : Int), j ≤ q ∧ i = .int .i64 j ∧ f = .bool (E0 && (numsK 0 ws (j + 1)).isSome) ∧ (∀ ns, numsK 0 ws (j + 1) = some ns → (1 ≤ j → intAt ns 0 = R) ∧ (2 ≤ j → intAt ns (j - 1) = C)) ∧ RdSt w D O B X 1 R C (.slice none 0 0) [] (.slice none 0 0) [] wr ∧ WrdB wr SB ws ∧ KeepT 3 D W wr) (fun _ i _ => q - (intOf i).toNat)
        case atStart => exact ⟨0, 0, 0, Nat.zero_le _, rfl, by rw [numsK_one]; first | rfl | (rw [HE0.out]; rfl), fun ns _ => ⟨fun h => absurd h (by omega), fun h => absurd h (by omega)⟩, HS3.out, HW3.out, HK3.out⟩
        case round =>
          obtain ⟨j, R, C, hj, rfl, rfl, hRC, hsr, hwr, hkr⟩ := hrel
          have HRC := Lib.hid hRC
          have HSR := Lib.hid hsr
          have HWR := Lib.hid hwr
          have HKR := Lib.hid hkr
          have hWlt := hwr.lt
          obtain ⟨eb, heb⟩ : ∃ eb, (E0 && (numsK 0 ws (j + 1)).isSome) = eb := ⟨_, rfl⟩
          have HEB := Lib.hid heb
          rw [heb]
          by_cases hlt : j < q
          · have hd1 : decide ((j : Int) < (q : Int)) = true := by simp; omega
            have hj1 : (j : Int) < (q : Int) := by omega
            obtain ⟨x, hx⟩ : ∃ x, textAt ws (j + 1) = x := ⟨_, rfl⟩
            have cx := hwr.cell (j := j + 1) (by rw [HM.out]; omega)
            rw [hx, Nat.add_comm j 1] at cx
            obtain ⟨c, hc⟩ : ∃ c, (phW x false).isSome = c := ⟨_, rfl⟩
            have HPH := Lib.hid (show Calls Tryz.prog 55 #[.string x, .bool false] wr fun e w' => ∃ p : Int, e = .returned (.tuple #[.int .i64 p, .bool c]) ∧ (∀ v, phW x false = some v → p = v) ∧ Below wr.heap.size wr w' from by
              rw [← hc]
              exact phase_any x false wr (by have := HWZ.out (j + 1); rw [hx] at this; omega) (HT.out.below hsr.bel))
            have HR0 := Lib.hid (show wordP 0 x = phW x false from rfl)
            have HNX := Lib.hid (numsK_succ 0 ws (j + 1) (by rw [HM.out]; omega) (by omega))
            rw [hx] at HNX
            have HSO := Lib.hid (snoc_isSome HNX.out)
            rw [HR0.out, hc] at HSO
            clear hRC hsr hwr hkr hx hc heb
            by_cases hj0 : j = 0
            · have hje : ((j : Int) == 0) = true := by simp; omega
              have HJ0 := Lib.hid hj0
              clear hj0
              cases eb
              all_goals
                gi_wp2_with (first | (refine ⟨trivial, ?_⟩; gi_at_call 55; (with_reducible refine (callsIn_round HPH.out).mono ?_); rintro e w4 ⟨p, rfl, hp, hb⟩; have HS4 := Lib.hid (HSR.out.below hb); have HW4 := Lib.hid (HWR.out.below hb hWlt); have HK4 := Lib.hid (HKR.out.trans (KeepT.below (T := 3) (B := D) hb)); have HP := Lib.hid hp; obtain ⟨c30, f30⟩ := HS4.out.m0; obtain ⟨c31, f31⟩ := HS4.out.m1; have hz4 := hb.size; clear hp hb cx))
                have hpo := HS4.out.hi
                have hpd := HS4.out.hd
                have HN := Lib.hid (show ∀ ns, numsK 0 ws (j + 1 + 1) = some ns → ∃ ms, numsK 0 ws (j + 1) = some ms ∧ ns = ms ++ [p] ∧ ms.length = j from fun ns h => by
                  rw [HNX.out] at h
                  cases hms : numsK 0 ws (j + 1) with
                  | none => rw [hms] at h; cases h
                  | some ms =>
                    rw [hms] at h
                    cases hr : wordP 0 x with
                    | none => rw [hr] at h; cases h
                    | some z =>
                      rw [hr] at h
                      injection h with h
                      refine ⟨ms, rfl, ?_, ?_⟩
                      · rw [← h, HP.out z (by rw [← HR0.out]; exact hr)]
                      · have h1 := allO_len _ _ hms
                        rw [List.length_map] at h1
                        unfold lookW at h1
                        rw [if_pos rfl, List.length_drop, List.length_take] at h1
                        have := HM.out
                        omega)
                go_roundw
                case rel => exact ⟨j + 1, p, C, by omega, by go_num, by rw [HSO.out, ← Bool.and_assoc, HEB.out]; first | rfl | simp, fun ns h => ⟨fun _ => by obtain ⟨ms, -, rfl, hl⟩ := HN.out ns h; rw [HJ0.out] at hl; rw [List.length_eq_zero_iff.1 hl]; rfl, fun h => by have := HJ0.out; omega⟩, HS4.out.rows p, HW4.out.other (by have := HSB.out; omega) _, HK4.out.setCell (p := ⟨O + 3, 0, none⟩) (by show O + 3 < D; omega) _⟩
                case measure => simp [intOf]; omega
            · have hje : ((j : Int) == 0) = false := by simp; omega
              have HJ0 := Lib.hid hj0
              clear hj0
              cases eb
              all_goals
                gi_wp2_with (first | (refine ⟨trivial, ?_⟩; gi_at_call 55; (with_reducible refine (callsIn_round HPH.out).mono ?_); rintro e w4 ⟨p, rfl, hp, hb⟩; have HS4 := Lib.hid (HSR.out.below hb); have HW4 := Lib.hid (HWR.out.below hb hWlt); have HK4 := Lib.hid (HKR.out.trans (KeepT.below (T := 3) (B := D) hb)); have HP := Lib.hid hp; obtain ⟨c30, f30⟩ := HS4.out.m0; obtain ⟨c31, f31⟩ := HS4.out.m1; have hz4 := hb.size; clear hp hb cx))
                have hpo := HS4.out.hi
                have hpd := HS4.out.hd
                have HN := Lib.hid (show ∀ ns, numsK 0 ws (j + 1 + 1) = some ns → ∃ ms, numsK 0 ws (j + 1) = some ms ∧ ns = ms ++ [p] ∧ ms.length = j from fun ns h => by
                  rw [HNX.out] at h
                  cases hms : numsK 0 ws (j + 1) with
                  | none => rw [hms] at h; cases h
                  | some ms =>
                    rw [hms] at h
                    cases hr : wordP 0 x with
                    | none => rw [hr] at h; cases h
                    | some z =>
                      rw [hr] at h
                      injection h with h
                      refine ⟨ms, rfl, ?_, ?_⟩
                      · rw [← h, HP.out z (by rw [← HR0.out]; exact hr)]
                      · have h1 := allO_len _ _ hms
                        rw [List.length_map] at h1
                        unfold lookW at h1
                        rw [if_pos rfl, List.length_drop, List.length_take] at h1
                        have := HM.out
                        omega)
                go_roundw
                case rel => exact ⟨j + 1, R, p, by omega, by go_num, by rw [HSO.out, ← Bool.and_assoc, HEB.out]; first | rfl | simp, fun ns h => ⟨fun _ => by obtain ⟨ms, h1, rfl, hl⟩ := HN.out ns h; rw [← (HRC.out ms h1).1 (by have := HJ0.out; omega)]; unfold intAt; rw [List.getElem?_append_left (by have := HJ0.out; omega)], fun _ => by obtain ⟨ms, h1, rfl, hl⟩ := HN.out ns h; unfold intAt; rw [List.getElem?_append_right (by omega)]; simp [hl]⟩, HS4.out.columns p, HW4.out.other (by have := HSB.out; omega) _, HK4.out.setCell (p := ⟨O + 3, 1, none⟩) (by show O + 3 < D; omega) _⟩
                case measure => simp [intOf]; omega
          · have hd1 : decide ((j : Int) < (q : Int)) = false := by simp; omega
            have hje : j = q := by omega
            obtain ⟨c7, f7⟩ := hsr.n0
            obtain ⟨g0, g0f⟩ := hsr.r0
            obtain ⟨g1, g1f⟩ := hsr.r1
            obtain ⟨g2, g2f⟩ := hsr.r2
            obtain ⟨g3, g3f⟩ := hsr.r3
            obtain ⟨g4, g4f⟩ := hsr.r4
            have hpo := hsr.hi
            have hpd := hsr.hd
            clear hRC hsr hwr hkr heb
            cases eb
            · have HB2 := Lib.hid (show ∀ W', RetB w D O 1 W' → Ix .ret W' from fun W' h => HBAD.out W' (fun h2 => by
                have h3 := HEB.out
                obtain ⟨h4, h5, ns, h6, h7⟩ := h2
                have h8 := numsK_head (by rw [HM.out]; exact h6)
                rw [hje, h6, HE1.out h4 h5 (by have := HM.out; omega)] at h3
                cases h3) h)
              gi_wp2
              gi_region
              all_goals
                gi_wp2
                exact ⟨(((((HKR.out.setCell (p := ⟨O, 0, none⟩) (by show O < D; omega) _).setCell (p := ⟨O, 1, none⟩) (by show O < D; omega) _).setCell (p := ⟨O, 2, none⟩) (by show O < D; omega) _).setCell (p := ⟨O + 1, 0, none⟩) (by show O + 1 < D; omega) _).setCell (p := ⟨O + 2, 0, none⟩) (by show O + 2 < D; omega) _).drew, HB2.out _ HSR.out.ret.drew⟩
            · have HG2 := Lib.hid (show I wr from by
                have h3 := HEB.out
                rw [Bool.and_eq_true, hje] at h3
                obtain ⟨ns, hns⟩ := Option.isSome_iff_exists.1 h3.2
                obtain ⟨h4, h5, h6⟩ := HE2.out h3.1
                have h8 := numsK_head (by rw [HM.out]; exact hns)
                have hl : ns.length = 2 := by have := HM.out; omega
                have h9 := HRC.out ns (by rw [hje]; exact hns)
                have e1 := h9.1 (by have := HM.out; omega)
                have e2 := h9.2 (by have := HM.out; omega)
                rw [show j - 1 = 1 by have := HM.out; omega] at e2
                exact HGO.out wr ns h4 h5 hns hl (by rw [e1, e2]; exact HSR.out))
              gi_wp2
              exact ⟨HKR.out, HG2.out⟩
end Go.Proofs.YtkoiknmijjiicaaGreatDoor
