/- Chapter 4: the program's Parse. (Printed by mkx132.py from X134.src.) -/
import Derived.Test.YtkoiknmijjiicaaGreatDoorX133
namespace Go.Proofs.YtkoiknmijjiicaaGreatDoor
set_option linter.unusedVariables false
set_option linter.unusedSimpArgs false
open Go Go.RowKit Go.Sort
theorem anyN_hit {C : Int} {ls : List Int} {k : Nat} (hk : k < ls.length) (h : (intAt ls k != C) = true) : (ls.any fun z => z != C) = true := by
  refine List.any_eq_true.2 ⟨ls[k], List.getElem_mem hk, ?_⟩
  unfold intAt at h
  simpa [hk] using h
theorem anyN_no {C : Int} {ls : List Int} (h : ∀ j, j < ls.length → (intAt ls j != C) = false) : (ls.any fun z => z != C) = false := by
  refine List.any_eq_false.2 fun z hz => ?_
  obtain ⟨j, hj, rfl⟩ := List.getElem_of_mem hz
  have := h j hj
  unfold intAt at this
  simpa [hj] using this
set_option maxHeartbeats 1000000 in
theorem indexFunc_l (C : Int) (b : Nat) (ls : List Int) (v : Value) (w : World) (hl : ls.length ≤ 100000) (hv : IntsV w v ls) (hC : w.cell? ⟨b, 1, none⟩ = some (.int .i64 C)) :
    Calls Tryz.prog 65 #[v, .func (.func 57) #[] #[.pointer (some ⟨b, 0, none⟩)]] w fun e w' => ∃ i : Int, e = .returned (.int .i64 i) ∧ decide (0 ≤ i) = (ls.any fun z => z != C) ∧ (-1 ≤ i ∧ i ≤ 100000) ∧ w = w' := by
  obtain ⟨-, a, cap, rfl, h4⟩ := hv
  have H4 := Lib.hid h4
  have HC := Lib.hid hC
  have HN := Lib.hid (anyN_no (C := C) (ls := ls))
  have HH := Lib.hid (fun k => anyN_hit (C := C) (ls := ls) (k := k))
  obtain ⟨n, hn⟩ : ∃ n, ls.length = n := ⟨_, rfl⟩
  rw [hn] at hl H4 HN HH ⊢
  clear h4 hC
  go_enter Tryz.func65, Tryz.ntmps65
  go_wp2
  go_loop [8] (fun i => ∃ k : Nat, k ≤ n ∧ i = .int .i64 k ∧ ∀ j, j < k → (intAt ls j != C) = false) (fun i => n - (intOf i).toNat)
  case atStart => exact ⟨0, Nat.zero_le _, rfl, fun j hj => absurd hj (Nat.not_lt_zero _)⟩
  case round =>
    obtain ⟨k, hk, rfl, hz⟩ := hrel
    have HZ := Lib.hid hz
    clear hz
    by_cases hlt : k < n
    · have hdk : decide ((k : Int) < (n : Int)) = true := by simp; omega
      obtain ⟨g, off, rfl, hbw, hc⟩ := H4.out (by omega)
      have ck := hc k hlt
      clear hc
      rcases (show (intAt ls k != C) = true ∨ (intAt ls k != C) = false by cases (intAt ls k != C) <;> simp) with h0 | h0
      · have HP := Lib.hid (show Calls Tryz.prog 57 #[.int .i64 (intAt ls k), .pointer (some ⟨b, 0, none⟩)] w fun e w' => e = .returned (.bool true) ∧ w = w' from by have := lengthIs C (intAt ls k) ⟨b, 0, none⟩ w HC.out rfl; rwa [h0] at this)
        have HT := Lib.hid (HH.out k hlt h0)
        clear h0 HZ
        generalize intAt ls k = p at ck HP
        go_wp2_with (first | (go_at_call 57; (with_reducible refine (HP.out).mono ?_); rintro e w' ⟨rfl, rfl⟩))
        go_ret
        exact ⟨k, rfl, by rw [HT.out]; simp, by omega, rfl⟩
      · have HP := Lib.hid (show Calls Tryz.prog 57 #[.int .i64 (intAt ls k), .pointer (some ⟨b, 0, none⟩)] w fun e w' => e = .returned (.bool false) ∧ w = w' from by have := lengthIs C (intAt ls k) ⟨b, 0, none⟩ w HC.out rfl; rwa [h0] at this)
        have H0 := Lib.hid h0
        clear h0
        generalize intAt ls k = p at ck HP
        go_wp2_with (first | (go_at_call 57; (with_reducible refine (HP.out).mono ?_); rintro e w' ⟨rfl, rfl⟩))
        go_round
        case rel => exact ⟨k + 1, by omega, by go_num, fun j hj => by rcases Nat.lt_succ_iff_lt_or_eq.1 hj with h | rfl; exact HZ.out j h; exact H0.out⟩
        case measure => simp [intOf]; omega
    · obtain rfl : k = n := by omega
      have hdk : decide ((k : Int) < (k : Int)) = false := by simp
      have HT := Lib.hid (HN.out HZ.out)
      clear HZ
      go_wp2
      go_ret
      exact ⟨-1, rfl, by rw [HT.out]; decide, by omega, rfl⟩
set_option maxHeartbeats 1000000 in
theorem containsFunc_l (C : Int) (b : Nat) (ls : List Int) (v : Value) (w : World) (hl : ls.length ≤ 100000) (hv : IntsV w v ls) (hC : w.cell? ⟨b, 1, none⟩ = some (.int .i64 C)) {c : Bool} (hc : (ls.any fun z => z != C) = c) :
    Calls Tryz.prog 56 #[v, .func (.func 57) #[] #[.pointer (some ⟨b, 0, none⟩)]] w fun e w' => e = .returned (.bool c) ∧ w = w' := by
  have HI := Lib.hid (indexFunc_l C b ls v w hl hv hC)
  rw [hc] at HI
  obtain ⟨-, a, cap, rfl, -⟩ := hv
  clear hc hC
  go_enter Tryz.func56, Tryz.ntmps56
  go_wp2_with (first | (go_at_call 65; (with_reducible refine (HI.out).mono ?_); rintro e w' ⟨i, rfl, hc, ⟨hi1, hi2⟩, rfl⟩; have HC := Lib.hid hc; clear hc))
  go_ret
  exact ⟨ret_bool HC.out, rfl⟩
/-- A Parse that returns. -/
structure RetV (w : World) (D O : Nat) (A : PAns) (v : Value) (W : World) : Prop where
  c0 : Cel W O 0 (.int .i64 A.rows)
  c1 : Cel W O 1 (.int .i64 A.cols)
  c2 : Cel W O 2 v
  c3 : Cel W (O + 1) 0 (.int .i64 A.line)
  c4 : Cel W (O + 2) 0 (.int .i64 A.err)
  own : W.ownsRow D 3 1 v A.zs.length (intC A.zs)
  len : A.zs.length ≤ 1000000
  bel : Below w.heap.size w W
  lo : w.heap.size ≤ O
  hi : O + 2 < D
theorem RetB.retV {w : World} {D O n : Nat} {W : World} (h : RetB w D O n W) (lo : w.heap.size ≤ O) (hi : O + 2 < D) : RetV w D O ⟨0, 0, [], n, 7⟩ (.slice none 0 0) W :=
  ⟨h.1, h.2.1, h.2.2.1, h.2.2.2.1, h.2.2.2.2.1, World.ownsRow_nil _ _ _ _, Nat.zero_le _, h.2.2.2.2.2.1, lo, hi⟩
theorem leaveD {W : World} {D O : Nat} {x : Option Obj} (h : W.heap[D]? = x) (hi : O + 2 < D) (u0 u1 u2 u3 u4 : Value) :
    (((((W.setCell ⟨O, 0, none⟩ u0).setCell ⟨O, 1, none⟩ u1).setCell ⟨O, 2, none⟩ u2).setCell ⟨O + 1, 0, none⟩ u3).setCell ⟨O + 2, 0, none⟩ u4).heap[D]? = x := by
  rw [heap_setCell_other _ _ D _ (by show D ≠ O + 2; omega), heap_setCell_other _ _ D _ (by show D ≠ O + 1; omega), heap_setCell_other _ _ D _ (by show D ≠ O; omega), heap_setCell_other _ _ D _ (by show D ≠ O; omega), heap_setCell_other _ _ D _ (by show D ≠ O; omega)]
  exact h
theorem RdSt.leave5 {w : World} {D O B : Nat} {X : Value} {num R C : Int} {v : Value} {zs : List Int} {v2 : Value} {ls : List Int} {W : World} (h : RdSt w D O B X num R C v zs v2 ls W) (a b : Int) (x : Value) (c e : Int) (A : PAns) (h0 : A.rows = a) (h1 : A.cols = b) (h3 : (A.line : Int) = c) (h4 : A.err = e)
    (ho : W.ownsRow D 3 1 x A.zs.length (intC A.zs)) (hl : A.zs.length ≤ 1000000) :
    RetV w D O A x (((((W.setCell ⟨O, 0, none⟩ (.int .i64 a)).setCell ⟨O, 1, none⟩ (.int .i64 b)).setCell ⟨O, 2, none⟩ x).setCell ⟨O + 1, 0, none⟩ (.int .i64 c)).setCell ⟨O + 2, 0, none⟩ (.int .i64 e)) := by
  have q3 := h.lo
  have q4 := h.hi
  have q5 := h.hd
  subst h0 h1 h3 h4
  refine ⟨((((h.r0.set _).other (by omega) _).other (by omega) _).other (by omega) _).other (by omega) _, ((((h.r1.other (by omega) _).set _).other (by omega) _).other (by omega) _).other (by omega) _,
    ((((h.r2.other (by omega) _).other (by omega) _).set _).other (by omega) _).other (by omega) _, ((((h.r3.other (by omega) _).other (by omega) _).other (by omega) _).set _).other (by omega) _,
    ((((h.r4.other (by omega) _).other (by omega) _).other (by omega) _).other (by omega) _).set _, ?_, hl, ?_, q3, by omega⟩
  · exact ownsRow_setCell_below (ownsRow_setCell_below (ownsRow_setCell_below (ownsRow_setCell_below (ownsRow_setCell_below ho (by show O < D; omega) _) (by show O < D; omega) _) (by show O < D; omega) _) (by show O + 1 < D; omega) _) (by show O + 2 < D; omega) _
  · exact ((((h.bel.setCell (p := ⟨O, 0, none⟩) q3 _).setCell (p := ⟨O, 1, none⟩) q3 _).setCell (p := ⟨O, 2, none⟩) q3 _).setCell (p := ⟨O + 1, 0, none⟩) (by show w.heap.size ≤ O + 1; omega) _).setCell (p := ⟨O + 2, 0, none⟩) (by show w.heap.size ≤ O + 2; omega) _
theorem RdSt.leaveN {w : World} {D O B : Nat} {X : Value} {num R C : Int} {v : Value} {zs : List Int} {v2 : Value} {ls : List Int} {W : World} (h : RdSt w D O B X num R C v zs v2 ls W) (n : Nat) (n' e : Int) (hn : (n : Int) = n') :
    RetV w D O ⟨0, 0, [], n, e⟩ (.slice none 0 0) (((((W.setCell ⟨O, 0, none⟩ (.int .i64 0)).setCell ⟨O, 1, none⟩ (.int .i64 0)).setCell ⟨O, 2, none⟩ (.slice none 0 0)).setCell ⟨O + 1, 0, none⟩ (.int .i64 n')).setCell ⟨O + 2, 0, none⟩ (.int .i64 e)) :=
  h.leave5 0 0 _ n' e _ rfl rfl hn rfl (World.ownsRow_nil _ _ _ _) (Nat.zero_le _)
theorem RdSt.leaveM {w : World} {D O B : Nat} {X : Value} {num R C : Int} {v : Value} {zs : List Int} {v2 : Value} {ls : List Int} {W : World} (h : RdSt w D O B X num R C v zs v2 ls W) (hl : zs.length ≤ 1000000) :
    RetV w D O ⟨R, C, zs, 0, 0⟩ v (((((W.setCell ⟨O, 0, none⟩ (.int .i64 R)).setCell ⟨O, 1, none⟩ (.int .i64 C)).setCell ⟨O, 2, none⟩ v).setCell ⟨O + 1, 0, none⟩ (.int .i64 0)).setCell ⟨O + 2, 0, none⟩ (.int .i64 0)) :=
  h.leave5 R C v 0 0 _ rfl rfl rfl rfl h.own hl
theorem parseLeave (s : ByteArray) (A : PAns) (hA : ansP s = A) (w W : World) (D O : Nat) (v : Value) (h : RetV w D O A v W) (hD : W.heap[D]? = some (.deferred (some []))) (u0 u1 u5 u6 u7 u8 u9 u10 u11 u12 u13 u14 u15 u16 u17 u18 u19 u20 u21 u22 u23 u24 u25 u26 u27 u28 u29 u30 u31 u32 u33 u34 u35 u36 u37 u38 u39 u40 u41 u42 u43 u44 u45 u46 u47 u48 u49 u50 u51 u52 u53 u54 u55 u56 u57 u58 u59 u60 u61 u62 u63 u64 u65 u66 u67 u68 u69 u70 u71 u72 u73 u74 u75 u76 u77 u78 u79 u80 u81 u82 u83 u84 u85 u86 u87 u88 u89 u90 u91 u92 u93 u94 u95 u96 u97 u98 u99 u100 u101 u102 u103 u104 u105 u106 u107 u108 u109 u110 u111 u112 u113 u114 u115 u116 u117 u118 u119 : Value) :
    LeavesInM Fence.wide 9 Tryz.prog Tryz.f15 #[u0, u1, .pointer (some ⟨O, 0, none⟩), .pointer (some ⟨O + 1, 0, none⟩), .pointer (some ⟨O + 2, 0, none⟩), u5, u6, u7, u8, u9, u10, u11, u12, u13, u14, u15, u16, u17, u18, u19, u20, u21, u22, u23, u24, u25, u26, u27, u28, u29, u30, u31, u32, u33, u34, u35, u36, u37, u38, u39, u40, u41, u42, u43, u44, u45, u46, u47, u48, u49, u50, u51, u52, u53, u54, u55, u56, u57, u58, u59, u60, u61, u62, u63, u64, u65, u66, u67, u68, u69, u70, u71, u72, u73, u74, u75, u76, u77, u78, u79, u80, u81, u82, u83, u84, u85, u86, u87, u88, u89, u90, u91, u92, u93, u94, u95, u96, u97, u98, u99, u100, u101, u102, u103, u104, u105, u106, u107, u108, u109, u110, u111, u112, u113, u114, u115, u116, u117, u118, u119] (RpPost s w) [{ target := .collected D, args := #[] }] .returning W := by
  refine ⟨by simp, .inl ⟨_, _, rfl, run_takeDeferred hD, ?_⟩⟩
  have hb : Below D W (W.putObj D (.deferred none)) := below_putObj (Nat.le_refl _) _
  have hlo := h.lo
  have hhi := h.hi
  obtain ⟨q0, -⟩ := h.c0.below hb (by omega)
  obtain ⟨q1, -⟩ := h.c1.below hb (by omega)
  obtain ⟨q2, -⟩ := h.c2.below hb (by omega)
  obtain ⟨q3, -⟩ := h.c3.below hb (by omega)
  obtain ⟨q4, -⟩ := h.c4.below hb (by omega)
  have ho : IntsV (W.putObj D (.deferred none)) v A.zs := ints_row (ownsRow_putObj h.own _ hD rfl) (by have := h.len; omega)
  have hB := h.bel.trans (hb.mono (by omega))
  generalize W.putObj D (.deferred none) = W2 at q0 q1 q2 q3 q4 ho hB
  refine ⟨.tuple #[.agg #[.int .i64 A.rows, .int .i64 A.cols, v], .int .i64 A.line, .int .i64 A.err], ?_, v, by rw [hA], by rw [hA]; exact ho, hB⟩
  simp [results, Tryz.results15, go_sem, q0, q1, q2, q3, q4]
/-- The lengths of the lines that have come. -/
def LensOk (k : Nat) (st : PSt) (ls : List Int) : Prop := ls.length = k - 1 ∧ (0 < k → st.fits = !(ls.any fun z => z != st.cols))
theorem LensOk.next {k : Nat} {st st' : PSt} {ls : List Int} {m : Nat} (h : LensOk k st ls) (hk : 0 < k) (h1 : st'.cols = st.cols) (h2 : st'.fits = (st.fits && decide ((m : Int) = st.cols))) : LensOk (k + 1) st' (ls ++ [(m : Int)]) := by
  refine ⟨by rw [List.length_append, h.1, List.length_singleton]; omega, fun _ => ?_⟩
  rw [h2, h.2 hk, h1, List.any_append]
  simp only [List.any_cons, List.any_nil, Bool.or_false, Bool.not_or]
  congr 1
  by_cases e : (m : Int) = st.cols <;> simp [e]
/-- What is known at the loop. -/
def PLoop (s : ByteArray) (w : World) (D O B k : Nat) (W : World) : Prop :=
  ∃ (st : PSt) (ls : List Int) (v v2 : Value) (X : Value), k ≤ endsN s ∧ runL (cutW s 10) k = some st ∧ LensOk k st ls ∧ RdSt w D O B X k st.rows st.cols v st.zs v2 ls W ∧ (k = 0 → v = .slice none 0 0 ∧ v2 = .slice none 0 0)
def PStop (s : ByteArray) (w : World) (D O : Nat) (c : Code) (W : World) : Prop := c = .ret ∧ ∃ n : Nat, RetB w D O n W ∧ ansP s = ⟨0, 0, [], n, 7⟩
theorem lineK_size (s : ByteArray) (k : Nat) : (lineK s k).size ≤ s.size := by
  have := rests_size s k
  unfold lineK
  rw [ByteArray.size_extract]
  omega
/-- The answer of a text that ends within a line, or is empty. -/
theorem ans_unended (s : ByteArray) (hs : s.size ≤ 60000) {st : PSt} (h : runL (cutW s 10) (endsN s) = some st) (h2 : textAt (cutW s 10) (endsN s) ≠ ⟨#[]⟩ ∨ endsN s = 0) : ansP s = ⟨0, 0, [], endsN s + 1, 7⟩ := by
  unfold ansP
  rw [if_neg (by omega), badL_run _ _ _ h, h]
  simp only
  rw [if_pos h2]
theorem ans_bad (s : ByteArray) (hs : s.size ≤ 60000) {k : Nat} {st : PSt} (hk : k < endsN s) (h : runL (cutW s 10) k = some st) (h2 : runL (cutW s 10) (k + 1) = none) : ansP s = ⟨0, 0, [], k + 1, 7⟩ := by
  unfold ansP
  rw [if_neg (by omega), badL_stop _ _ h h2 _ hk]
theorem linesN_last (s : ByteArray) (h : endsN s < linesN s) : textAt (cutW s 10) (endsN s) ≠ ⟨#[]⟩ := by
  rw [linesN_eq] at h
  intro e
  rw [e, if_pos (show (⟨#[]⟩ : ByteArray).size = 0 from rfl)] at h
  omega
theorem linesN_done (s : ByteArray) (h : linesN s ≤ endsN s) : linesN s = endsN s ∧ textAt (cutW s 10) (endsN s) = ⟨#[]⟩ := by
  rw [linesN_eq] at h ⊢
  split at h
  · next h1 =>
    rw [if_pos h1]
    refine ⟨rfl, ?_⟩
    generalize textAt (cutW s 10) (endsN s) = x at h1
    apply ByteArray.ext
    exact Array.eq_empty_of_size_eq_zero h1
  · omega
theorem any_world134 {G : World → Prop} {w : World} (F : World → Prop) (hf : F w) (h : ∀ W, F W → G W) : G w := h w hf
set_option maxRecDepth 20000 in
set_option maxHeartbeats 1000000 in
theorem fParse_big (s : ByteArray) (w : World) (hs : 60000 < s.size) : Calls Tryz.prog 15 #[.string s] w (RpPost s w) := by
  have hA : ansP s = ⟨0, 0, [], 0, 8⟩ := by unfold ansP; rw [if_pos hs]
  have hd : decide ((60000 : Int) < (s.size : Int)) = true := by simp; omega
  unfold RpPost
  rw [hA]
  clear hA
  refine callsIn_wide.1 (callsIn_of_wp_marks (F := Fence.wide) (n := 9) Tryz.func15 rfl trivial (wpIn_wide.2 ?_) rfl)
  simp only [Tryz.ntmps15, List.size_toArray, List.length_cons, List.length_nil, Nat.reduceAdd, Nat.reduceSub, Array.replicate_succ, Array.replicate_zero, List.push_toArray, List.append_toArray, List.nil_append, List.cons_append]
  go_wp2
  refine ⟨.tuple #[.agg #[.int .i64 0, .int .i64 0, .slice none 0 0], .int .i64 0, .int .i64 8], ?_, _, rfl, ints_nil _, (by (repeat' (first | with_reducible exact Below.refl _ _ | (with_reducible refine below_later_of ?_ ?_ _) | (with_reducible refine Below.alloc ?_ ?_ _) | (with_reducible refine Below.setCell ?_ ?_ _) | (with_reducible refine Below.drew ?_) | (simp; done) | (simp; omega) | omega)))⟩
  first | (simp [results, Tryz.results15, go_sem]; done) | simp [results, Tryz.results15, go_sem, ↓IntWalk.iteOmega]
set_option maxRecDepth 20000 in
set_option maxHeartbeats 4000000 in
theorem fParse (s : ByteArray) (w : World) (hs : s.size ≤ 60000) (ht : TabR w) : Calls Tryz.prog 15 #[.string s] w (RpPost s w) := by
  have HT := Lib.hid ht
  have hd : decide ((60000 : Int) < (s.size : Int)) = false := by simp; omega
  have hne := ends_le s
  clear ht
  refine callsIn_wide.1 (callsIn_of_wp_marks (F := Fence.wide) (n := 9) Tryz.func15 rfl trivial (wpIn_wide.2 ?_) rfl)
  simp only [Tryz.ntmps15, List.size_toArray, List.length_cons, List.length_nil, Nat.reduceAdd, Nat.reduceSub, Array.replicate_succ, Array.replicate_zero, List.push_toArray, List.append_toArray, List.nil_append, List.cons_append]
  go_wp2_with (first | (go_at_call 52; (with_reducible refine (lines_any s _).mono ?_); rintro e w5 ⟨B, hB, rfl, hsB, hlB, hbl⟩))
  obtain ⟨D, hD⟩ : ∃ D, w5.heap.size = D := ⟨_, rfl⟩
  have hB5 : B = w.heap.size + 6 := by rw [hB]; simp
  obtain ⟨O, hO⟩ : ∃ O, w.heap.size = O := ⟨_, rfl⟩
  have HRD := Lib.hid (show RdSt w D O B (.string s) 0 0 0 (.slice none 0 0) [] (.slice none 0 0) [] w5 from by
    subst hO hD
    refine ⟨(show Below w.heap.size w _ from (by (repeat' (first | with_reducible exact Below.refl _ _ | (with_reducible refine below_later_of ?_ ?_ _) | (with_reducible refine Below.alloc ?_ ?_ _) | (with_reducible refine Below.setCell ?_ ?_ _) | (with_reducible refine Below.drew ?_) | (simp; done) | (simp; omega) | omega)))).trans (hbl.mono (by simp <;> omega)), Nat.le_refl _, Nat.le_refl _, by omega, hlB, Cel.below (u := .int .i64 0) ⟨?_, ?_⟩ hbl (by simp <;> omega), Cel.below (u := .int .i64 0) ⟨?_, ?_⟩ hbl (by simp <;> omega), Cel.below (u := .slice none 0 0) ⟨?_, ?_⟩ hbl (by simp <;> omega), Cel.below (u := .int .i64 0) ⟨?_, ?_⟩ hbl (by simp <;> omega), Cel.below (u := .int .i64 0) ⟨?_, ?_⟩ hbl (by simp <;> omega),
      Cel.below (u := .int .i64 0) ⟨?_, ?_⟩ hbl (by simp <;> omega), Cel.below (u := .int .i64 0) ⟨?_, ?_⟩ hbl (by simp <;> omega), Cel.below (u := .slice none 0 0) ⟨?_, ?_⟩ hbl (by simp <;> omega), Cel.below (u := .slice none 0 0) ⟨?_, ?_⟩ hbl (by simp <;> omega), Cel.below (u := .int .i64 0) ⟨?_, ?_⟩ hbl (by simp <;> omega), World.ownsRow_nil _ _ _ _, World.ownsRow_nil _ _ _ _, (fun g h => by cases h), hsB⟩
    all_goals first | (simp [go_sem]; done) | simp [go_sem, ↓IntWalk.iteOmega])
  have hBD : B < D := by omega
  rw [show w.heap.size + 1 + 1 + 1 + 1 + 1 + 1 = B by omega, hO, show O + 1 + 1 + 1 + 1 + 1 = O + 5 from rfl, show O + 1 + 1 + 1 + 1 = O + 4 from rfl, show O + 1 + 1 + 1 = O + 3 from rfl, show O + 1 + 1 = O + 2 from rfl]
  clear hB hB5 hsB hbl
  have HST0 := Lib.hid HRD.out.st
  refine wpIn_wide.1 (wpIn_rangeCapS 3 B (fun k => .string (rests s k)) (n := 9) rfl (by omega) (gf := 98) (cap := #[.pointer (some ⟨B, 0, none⟩)]) rfl trivial (enters_of Tryz.func98 (by kernel_rfl) rfl) (N := linesN s) (enc := fun k => #[.string (lineK s k)]) (fun k => rfl)
    (fun W hW => lines_iter 3 8 (by omega) B s (by omega) (linesN s) (linesN_end s) (linesN_pos s) W (by have := hW.size; omega))
    (fun k W => PLoop s w D O B k W)
    (fun c W => PStop s w D O c W)
    ?hI ?hIx ?hIB (by omega) HST0.out ?h0
    (fun T k => (T.setIfInBounds 24 (.string (lineK s k))).setIfInBounds 8 (.string (lineK s k)))
    ?assign ?body ?done ?stop)
  case hI =>
    rw [hD]
    rintro k W1 W2 ⟨st, ls, v, v2, X, h1, h2, h3, h4, h5⟩ hb hc
    exact ⟨st, ls, v, v2, X, h1, h2, h3, h4.keep hb hc, h5⟩
  case hIx =>
    rw [hD]
    rintro c W1 W2 ⟨h0, n, ⟨h1, h2, h3, h4, h5, h6, h7⟩, h8⟩ hb hc
    have hOD : O + 2 < D := by have := HRD.out.hi; omega
    exact ⟨h0, n, ⟨h1.below hb (by omega), h2.below hb (by omega), h3.below hb (by omega), h4.below hb (by omega), h5.below hb (by omega), h6.trans (hb.mono (by omega)), Nat.le_trans h7 hb.size⟩, h8⟩
  case hIB =>
    rintro k W u ⟨st, ls, v, v2, X, h1, h2, h3, h4, h5⟩
    exact ⟨st, ls, v, v2, u, h1, h2, h3, h4.setB u, h5⟩
  case h0 => exact ⟨⟨0, 0, [], true⟩, [], _, _, _, Nat.zero_le _, rfl, ⟨rfl, fun h => absurd h (by omega)⟩, HRD.out, fun _ => ⟨rfl, rfl⟩⟩
  case assign =>
    intro l k W K hK
    simp only [List.setIfInBounds_toArray, List.set_cons_succ, List.set_cons_zero] at hK
    gi_wp2
    exact hK
  case body =>
    rw [hD]
    rintro l k W ⟨st, ls, v, v2, X, hk, hrun, hls, hrd, hv0⟩ hkN hWs hsb
    have hr2 : RdSt w D O B (.string (rests s (k + 1))) k st.rows st.cols v st.zs v2 ls W := { hrd with st := hsb }
    obtain ⟨T, hTT⟩ : ∃ T, textAt (cutW s 10) k = T := ⟨_, rfl⟩
    have hlt := line_text s k hkN
    have hcs : ∀ W, Calls Tryz.prog 53 #[.string (lineK s k), .string ⟨#[10]⟩] W fun e w' => e = .returned (.tuple #[.string T, .bool (decide (k < endsN s))]) ∧ w' = W := fun W => by
      refine (Tryz.strings_CutSuffix (lineK s k) ⟨#[10]⟩ W (by have := lineK_size s k; omega)).mono ?_
      rintro e w' ⟨rfl, rfl⟩
      rw [show (⟨#[10]⟩ : ByteArray).data.toList = [10] from rfl, hlt.1, hlt.2, hTT]
      exact ⟨rfl, rfl⟩
    have hTz : T.size ≤ 60000 := by have := piece_size s k; rw [hTT] at this; omega
    obtain ⟨ws, hws⟩ : ∃ ws, wordsT T = ws := ⟨_, rfl⟩
    have hwz : ∀ j, (textAt ws j).size ≤ 60000 := fun j => by have := word_size T j; rw [hws] at this; omega
    have hm2 : ws.length ≤ 60001 := by have := words_le T; rw [hws] at this; omega
    have hm1 : 0 < ws.length := by rw [← hws]; exact wordsT_pos T
    have hrs : runL (cutW s 10) (k + 1) = stepL k T st := by rw [runL, hrun, hTT]
    by_cases hk0 : k = 0
    · subst hk0
      obtain ⟨rfl, rfl⟩ := hv0 rfl
      obtain rfl : (⟨0, 0, [], true⟩ : PSt) = st := by simpa [runL] using hrun
      obtain rfl : ls = [] := List.length_eq_zero_iff.1 hls.1
      obtain ⟨q, hq⟩ : ∃ q, ws.length = q + 1 := ⟨ws.length - 1, by omega⟩
      refine parseHead _ (by kernel_rfl) (lineK s 0) T (decide (0 < endsN s)) ws q D O B 5 l _ w W _ _ hq (by omega) hwz HT.out hcs (fun W hW => split_any T W (by omega) hW hws hq) hr2 ?_ ?_ _ _ _ _ _ _ _ _ _ _ _ _ _ _ _ _ _ _ _ _ _ _ _ _ _ _ _ _ _ _ _ _ _ _ _ _ _ _ _ _ _ _ _ _ _ _ _ _ _ _ _ _ _ _ _ _ _ _ _ _ _ _ _ _ _ _ _ _ _ _ _ _ _ _ _ _ _ _ _ _ _ _ _ _ _ _ _ _ _ _ _ _ _ _ _ _ _ _ _ _ _ _ _ _ _ _ _ _ _ _ _ _
      · intro W' ns hb hp hn hl hrd'
        have hrn : runL (cutW s 10) 1 = some ⟨intAt ns 0, intAt ns 1, [], true⟩ := by
          rw [hrs]
          unfold stepL numsT
          rw [hws, hq, hn]
          simp only
          rw [if_pos trivial, if_pos ⟨hp, hl⟩]
        exact ⟨⟨_, [], _, _, _, of_decide_eq_true hb, hrn, ⟨rfl, fun _ => rfl⟩, hrd', fun h => absurd h (by omega)⟩, hrd'.st⟩
      · intro W' hn hrb
        refine ⟨rfl, 1, hrb, ?_⟩
        by_cases hb : 0 < endsN s
        · refine ans_bad s hs hb hrun ?_
          rw [hrs]
          unfold stepL numsT
          rw [hws, hq]
          cases hnn : numsK 0 ws (q + 1) with
          | none => rfl
          | some ns =>
            simp only
            rw [if_pos trivial, if_neg]
            exact fun h => hn ⟨by simpa using hb, h.1, ns, hnn, h.2⟩
        · have he : endsN s = 0 := by omega
          have := ans_unended s hs (st := ⟨0, 0, [], true⟩) (by rw [he]; rfl) (.inr he)
          rw [this, he]
    · have hll : ls.length ≤ 60001 := by rw [hls.1]; omega
      have hzl : st.zs.length ≤ 60001 := by have := run_bound s k st hk hrun; omega
      refine parseLine _ (by kernel_rfl) (lineK s k) T (decide (k < endsN s)) ws k ws.length D O B 5 l _ _ _ _ _ _ _ w W _ _ (by omega) (by omega) hzl hll rfl hm1 hm2 hwz HT.out hcs (fun W hW => split_any T W (by omega) hW hws rfl) hr2 ?_ ?_ _ _ _ _ _ _ _ _ _ _ _ _ _ _ _ _ _ _ _ _ _ _ _ _ _ _ _ _ _ _ _ _ _ _ _ _ _ _ _ _ _ _ _ _ _ _ _ _ _ _ _ _ _ _ _ _ _ _ _ _ _ _ _ _ _ _ _ _ _ _ _ _ _ _ _ _ _ _ _ _ _ _ _ _ _ _ _ _ _ _ _ _ _ _ _ _ _ _ _ _ _ _ _ _ _ _ _ _ _ _ _ _
      · intro W' ns v' v2' hb hn hrd'
        have hrn : runL (cutW s 10) (k + 1) = some ⟨st.rows, st.cols, st.zs ++ ns, st.fits && decide ((ns.length : Int) = st.cols)⟩ := by
          rw [hrs]
          unfold stepL numsT
          rw [hws, hn]
          simp only
          rw [if_neg hk0]
        have hnl := nums_full hk0 hn
        exact ⟨⟨_, _, _, _, _, of_decide_eq_true hb, hrn, hls.next (by omega) rfl (by rw [hnl]), hrd', fun h => absurd h (by omega)⟩, hrd'.st⟩
      · intro W' hn hrb
        refine ⟨rfl, k + 1, hrb, ?_⟩
        by_cases hb : k < endsN s
        · refine ans_bad s hs hb hrun ?_
          rw [hrs]
          unfold stepL numsT
          rw [hws]
          cases hnn : numsK k ws ws.length with
          | none => rfl
          | some ns => exact absurd ⟨by simpa using hb, ns, hnn⟩ hn
        · have he : k = endsN s := by omega
          have := ans_unended s hs (st := st) (by rw [← he]; exact hrun) (.inl (linesN_last s (by omega)))
          rw [this, he]
  case done =>
    rw [hD]
    rintro W ⟨st, ls, v, v2, X, hk, hrun, hls, hrd, hv0⟩ hDD
    obtain ⟨hN, hend⟩ := linesN_done s hk
    rw [hN] at hrun hls hrd hv0
    obtain ⟨n1, hn1⟩ : ∃ n1, endsN s = n1 := ⟨_, rfl⟩
    rw [hn1] at hrun hls hrd hv0 hend hne
    have hn2 : n1 ≤ 60000 := by omega
    have HAU := Lib.hid (fun h : n1 = 0 => ans_unended s hs (st := st) (by rw [hn1]; exact hrun) (.inr (by rw [hn1]; exact h)))
    have HANS := Lib.hid (fun h : n1 ≠ 0 => show ansP s = if st.fits = false ∨ (n1 : Int) - 1 ≠ st.rows then ⟨0, 0, [], 0, 10⟩
          else if (mapE st.rows st.cols st.zs).2 ≠ 0 then ⟨0, 0, [], 0, (mapE st.rows st.cols st.zs).2⟩
          else ⟨st.rows, st.cols, st.zs, 0, 0⟩ from by
      unfold ansP
      rw [if_neg (by omega), hn1, badL_run _ _ _ hrun, hrun]
      simp only
      rw [if_neg (fun h2 => h2.elim (fun h3 => h3 hend) h)])
    have HLS := Lib.hid hls
    obtain ⟨va, vc, rfl⟩ := ownsRow_form hrd.own
    obtain ⟨la, lc, rfl⟩ := ownsRow_form hrd.own2
    have HST := Lib.hid hrd
    have HDD := Lib.hid hDD
    have hDW : D < W.heap.size := (Array.getElem?_eq_some_iff.1 hDD).1
    have HDL := Lib.hid hDW
    have hlo := hrd.lo
    have hhi := hrd.hi
    have hhd := hrd.hd
    have hzl : st.zs.length ≤ 60001 := by have := run_bound s n1 st (by rw [hn1]; exact Nat.le_refl _) hrun; omega
    obtain ⟨c0, f0⟩ := hrd.m0
    obtain ⟨c1, f1⟩ := hrd.m1
    obtain ⟨c2, f2⟩ := hrd.m2
    obtain ⟨c3, f3⟩ := hrd.l0
    obtain ⟨c4, f4⟩ := hrd.n0
    obtain ⟨g0, g0f⟩ := hrd.r0
    obtain ⟨g1, g1f⟩ := hrd.r1
    obtain ⟨g2, g2f⟩ := hrd.r2
    obtain ⟨g3, g3f⟩ := hrd.r3
    obtain ⟨g4, g4f⟩ := hrd.r4
    by_cases hn0 : n1 = 0
    · have HA := Lib.hid (show ansP s = ⟨0, 0, [], 1, 7⟩ by rw [HAU.out hn0, hn1, hn0])
      have hne0 : ((n1 : Int) == 0) = true := by simp; omega
      clear hrun hls hrd hv0 hDD hn0
      go_wp2
      exact parseLeave s _ HA.out w _ D O _ (HST.out.leaveN 1 1 7 rfl) (leaveD HDD.out (by omega) _ _ _ _ _) _ _ _ _ _ _ _ _ _ _ _ _ _ _ _ _ _ _ _ _ _ _ _ _ _ _ _ _ _ _ _ _ _ _ _ _ _ _ _ _ _ _ _ _ _ _ _ _ _ _ _ _ _ _ _ _ _ _ _ _ _ _ _ _ _ _ _ _ _ _ _ _ _ _ _ _ _ _ _ _ _ _ _ _ _ _ _ _ _ _ _ _ _ _ _ _ _ _ _ _ _ _ _ _ _ _ _ _ _ _ _ _ _ _ _ _ _
    · have hne0 : ((n1 : Int) == 0) = false := by simp; omega
      have HN := Lib.hid (HANS.out hn0)
      have hl1 : ls.length = n1 - 1 := hls.1
      have hfit : st.fits = !(ls.any fun z => z != st.cols) := hls.2 (by omega)
      have hln : (ls.length : Int) = (n1 : Int) - 1 := by omega
      have HFIT := Lib.hid hfit
      have HLN := Lib.hid hln
      have hl2 : ls.length ≤ 60001 := by omega
      clear hrun hls hv0 hDD hn0 hl1 hfit hln
      by_cases hr : (ls.length : Int) = st.rows
      · have hrb : ((ls.length : Int) != st.rows) = false := by simp; omega
        have HR := Lib.hid hr
        clear hr
        obtain ⟨c, hc⟩ : ∃ c, (ls.any fun z => z != st.cols) = c := ⟨_, rfl⟩
        have HCF := Lib.hid (containsFunc_l st.cols (O + 3) ls _ W (by omega) (ints_row hrd.own2 (by omega)) c1 hc)
        rw [hc] at HFIT
        clear hc hrd
        cases c
        · obtain ⟨e0, he0⟩ : ∃ e0, (mapE st.rows st.cols st.zs).2 = e0 := ⟨_, rfl⟩
          have HN2 := Lib.hid (show ansP s = if e0 ≠ 0 then ⟨0, 0, [], 0, e0⟩ else ⟨st.rows, st.cols, st.zs, 0, 0⟩ by
            rw [HN.out, if_neg (fun h => h.elim (fun h => by rw [HFIT.out] at h; cases h) (fun h => h (by rw [← HLN.out]; exact HR.out))), he0])
          have HME := Lib.hid (mapErr_any st.rows st.cols st.zs _ W (by omega) (ints_row HST.out.own (by omega)) he0)
          clear he0
          by_cases h0 : e0 = 0
          · subst h0
            have HA := Lib.hid (show ansP s = ⟨st.rows, st.cols, st.zs, 0, 0⟩ by rw [HN2.out]; rfl)
            go_wp2_with (first | (go_at_call 56; (with_reducible refine (HCF.out).mono ?_); rintro e w' ⟨rfl, rfl⟩) | (go_at_call 58; (with_reducible refine (HME.out).mono ?_); rintro e w' ⟨rfl, hbm⟩; have HS9 := Lib.hid (HST.out.below hbm); obtain ⟨c0', f0'⟩ := HS9.out.m0; obtain ⟨c1', f1'⟩ := HS9.out.m1; obtain ⟨c2', f2'⟩ := HS9.out.m2; obtain ⟨g0', g0f'⟩ := HS9.out.r0; obtain ⟨g1', g1f'⟩ := HS9.out.r1; obtain ⟨g2', g2f'⟩ := HS9.out.r2; obtain ⟨g3', g3f'⟩ := HS9.out.r3; obtain ⟨g4', g4f'⟩ := HS9.out.r4; have HD9 := Lib.hid ((hbm.block _ HDL.out).trans HDD.out); clear hbm))
            exact parseLeave s _ HA.out w _ D O _ (HS9.out.leaveM (by omega)) (leaveD HD9.out (by omega) _ _ _ _ _) _ _ _ _ _ _ _ _ _ _ _ _ _ _ _ _ _ _ _ _ _ _ _ _ _ _ _ _ _ _ _ _ _ _ _ _ _ _ _ _ _ _ _ _ _ _ _ _ _ _ _ _ _ _ _ _ _ _ _ _ _ _ _ _ _ _ _ _ _ _ _ _ _ _ _ _ _ _ _ _ _ _ _ _ _ _ _ _ _ _ _ _ _ _ _ _ _ _ _ _ _ _ _ _ _ _ _ _ _ _ _ _ _ _ _ _ _
          · have hne9 : (e0 != 0) = true := by simpa using h0
            have HA := Lib.hid (show ansP s = ⟨0, 0, [], 0, e0⟩ by rw [HN2.out, if_pos h0])
            go_wp2_with (first | (go_at_call 56; (with_reducible refine (HCF.out).mono ?_); rintro e w' ⟨rfl, rfl⟩) | (go_at_call 58; (with_reducible refine (HME.out).mono ?_); rintro e w' ⟨rfl, hbm⟩; have HS9 := Lib.hid (HST.out.below hbm); obtain ⟨c0', f0'⟩ := HS9.out.m0; obtain ⟨c1', f1'⟩ := HS9.out.m1; obtain ⟨c2', f2'⟩ := HS9.out.m2; obtain ⟨g0', g0f'⟩ := HS9.out.r0; obtain ⟨g1', g1f'⟩ := HS9.out.r1; obtain ⟨g2', g2f'⟩ := HS9.out.r2; obtain ⟨g3', g3f'⟩ := HS9.out.r3; obtain ⟨g4', g4f'⟩ := HS9.out.r4; have HD9 := Lib.hid ((hbm.block _ HDL.out).trans HDD.out); clear hbm))
            exact parseLeave s _ HA.out w _ D O _ (HS9.out.leaveN 0 0 e0 rfl) (leaveD HD9.out (by omega) _ _ _ _ _) _ _ _ _ _ _ _ _ _ _ _ _ _ _ _ _ _ _ _ _ _ _ _ _ _ _ _ _ _ _ _ _ _ _ _ _ _ _ _ _ _ _ _ _ _ _ _ _ _ _ _ _ _ _ _ _ _ _ _ _ _ _ _ _ _ _ _ _ _ _ _ _ _ _ _ _ _ _ _ _ _ _ _ _ _ _ _ _ _ _ _ _ _ _ _ _ _ _ _ _ _ _ _ _ _ _ _ _ _ _ _ _ _ _ _ _ _
        · have HA := Lib.hid (show ansP s = ⟨0, 0, [], 0, 10⟩ by rw [HN.out, if_pos (.inl HFIT.out)])
          go_wp2_with (first | (go_at_call 56; (with_reducible refine (HCF.out).mono ?_); rintro e w' ⟨rfl, rfl⟩))
          exact parseLeave s _ HA.out w _ D O _ (HST.out.leaveN 0 0 10 rfl) (leaveD HDD.out (by omega) _ _ _ _ _) _ _ _ _ _ _ _ _ _ _ _ _ _ _ _ _ _ _ _ _ _ _ _ _ _ _ _ _ _ _ _ _ _ _ _ _ _ _ _ _ _ _ _ _ _ _ _ _ _ _ _ _ _ _ _ _ _ _ _ _ _ _ _ _ _ _ _ _ _ _ _ _ _ _ _ _ _ _ _ _ _ _ _ _ _ _ _ _ _ _ _ _ _ _ _ _ _ _ _ _ _ _ _ _ _ _ _ _ _ _ _ _ _ _ _ _ _
      · have hrb : ((ls.length : Int) != st.rows) = true := by simpa using hr
        have HA := Lib.hid (show ansP s = ⟨0, 0, [], 0, 10⟩ by rw [HN.out, if_pos (.inr (by rw [← HLN.out]; exact hr))])
        clear hr hrd
        go_wp2
        exact parseLeave s _ HA.out w _ D O _ (HST.out.leaveN 0 0 10 rfl) (leaveD HDD.out (by omega) _ _ _ _ _) _ _ _ _ _ _ _ _ _ _ _ _ _ _ _ _ _ _ _ _ _ _ _ _ _ _ _ _ _ _ _ _ _ _ _ _ _ _ _ _ _ _ _ _ _ _ _ _ _ _ _ _ _ _ _ _ _ _ _ _ _ _ _ _ _ _ _ _ _ _ _ _ _ _ _ _ _ _ _ _ _ _ _ _ _ _ _ _ _ _ _ _ _ _ _ _ _ _ _ _ _ _ _ _ _ _ _ _ _ _ _ _ _ _ _ _ _
  case stop =>
    rw [hD]
    rintro c W ⟨rfl, n, hret, hA⟩ hDD
    have hhi := HRD.out.hi
    gi_wp2
    exact parseLeave s _ hA w W D O _ (hret.retV (by omega) (by omega)) hDD _ _ _ _ _ _ _ _ _ _ _ _ _ _ _ _ _ _ _ _ _ _ _ _ _ _ _ _ _ _ _ _ _ _ _ _ _ _ _ _ _ _ _ _ _ _ _ _ _ _ _ _ _ _ _ _ _ _ _ _ _ _ _ _ _ _ _ _ _ _ _ _ _ _ _ _ _ _ _ _ _ _ _ _ _ _ _ _ _ _ _ _ _ _ _ _ _ _ _ _ _ _ _ _ _ _ _ _ _ _ _ _ _ _ _ _ _
end Go.Proofs.YtkoiknmijjiicaaGreatDoor
