import Derived.Test.YtkoiknmijjiicaaGreatDoorZQ
import Derived.Test.YtkoiknmijjiicaaGreatDoorZR
import Derived.TacticsIn
import Derived.BigFrameIn
import Derived.OwnWalkIn
import Derived.TacticsInMore
import Derived.LoopNIn
import Derived.LoopIn
import Derived.Test.YtkoiknmijjiicaaGreatDoorXA
import Derived.Deep.CutRange
import Derived.Deep.RegionHeld3
import Derived.Lib.ItoaLen
/- Chapter 4: slices.Chunk of phases: its closure yields the lines. -/
namespace Go.Proofs.YtkoiknmijjiicaaGreatDoor
set_option linter.unusedVariables false
set_option linter.unusedSimpArgs false
open Go.RowKit
set_option maxHeartbeats 400000 in
theorem chunkM_any (a : Option Addr) (n cap : Nat) (s : Int) (w : World) (h : 1 ≤ s) :
    Calls Tryz.prog 71 #[.slice a n cap, .int .i64 s] w fun e w' => e = .returned (.func (.func 110) #[] #[.pointer (some ⟨w.heap.size, 0, none⟩), .pointer (some ⟨w.heap.size + 1, 0, none⟩)]) ∧ (w'.heap[w.heap.size]? = some (.cells #[.slice a n cap] 42 (0, 0)) ∧ w'.heap[w.heap.size + 1]? = some (.cells #[.int .i64 s] 3 (0, 0))) ∧ w'.heap.size = w.heap.size + 2 ∧ Below w.heap.size w w' := by
  have hd : decide (s < 1) = false := by simp; omega
  go_enter Tryz.func71, Tryz.ntmps71
  go_wp2
  go_ret
  exact ⟨rfl, ⟨(Below.heap_alloc _ _ _ (by simp)).trans (World.alloc_heap_new w _), by rw [show w.heap.size + 1 = (w.alloc (.cells #[.slice a n cap] 42)).heap.size by simp]; exact World.alloc_heap_new _ _⟩, by simp, (by (repeat' (first | with_reducible exact Below.refl _ _ | (with_reducible refine below_later_of ?_ ?_ _) | (with_reducible refine Below.alloc ?_ ?_ _) | (with_reducible refine Below.setCell ?_ ?_ _) | (with_reducible refine Below.drew ?_) | (simp; done) | (simp; omega) | omega)))⟩
/-- Line number k. -/
def encM (b off S k : Nat) : Array Value := #[.slice (some ⟨b, off + k * S, none⟩) S S]
def ChunkM (p1 p2 b off n cap S : Nat) (W : World) : Prop := W.heap[p1]? = some (.cells #[.slice (some ⟨b, off, none⟩) n cap] 42 (0, 0)) ∧ W.heap[p2]? = some (.cells #[.int .i64 S] 3 (0, 0))
theorem ChunkM.cells {p1 p2 b off n cap S : Nat} {W : World} (h : ChunkM p1 p2 b off n cap S W) : W.cell? ⟨p1, 0, none⟩ = some (.slice (some ⟨b, off, none⟩) n cap) ∧ W.cell? ⟨p2, 0, none⟩ = some (.int .i64 S) :=
  ⟨by rw [cell_of_row W p1 0 _ _ _ h.1]; rfl, by rw [cell_of_row W p2 0 _ _ _ h.2]; rfl⟩
set_option maxRecDepth 20000 in
set_option maxHeartbeats 2000000 in
theorem chunkM_iter (T : TypeId) (n : Nat) (hn : 1 ≤ n) (p1 p2 b off m cap L S : Nat) (hm : m = L * S) (hc : m ≤ cap) (l1 : 1 ≤ L) (l2 : L ≤ 64) (s1 : 1 ≤ S) (s2 : S ≤ 64) (W : World) :
    IterOkT T (ChunkM p1 p2 b off m cap S) Fence.wide n Tryz.prog 110 #[.pointer (some ⟨p1, 0, none⟩), .pointer (some ⟨p2, 0, none⟩)] L (encM b off S) W := by
  intro l J Jx hJ hJx hS hY h0
  have HM := Lib.hid hm
  have HJ := Lib.hid hJ
  have HS := Lib.hid hS
  have HY := Lib.hid hY
  have H0 := Lib.hid h0
  have hm4 : m ≤ 4096 := by rw [hm]; exact Nat.mul_le_mul l2 s2
  clear hJ hJx hY h0 hm hS
  refine callsIn_of_wp Tryz.func110 rfl trivial ?_ rfl
  simp only [Tryz.ntmps110, List.size_toArray, List.length_cons, List.length_nil, Nat.reduceAdd, Nat.reduceSub, Array.replicate_succ, Array.replicate_zero, List.push_toArray, List.append_toArray, List.nil_append, List.cons_append]
  gi_wp2
  gi_loopw [4] (fun v wr => ∃ k i : Nat, k ≤ L ∧ i = k * S ∧ v = .int .i64 i ∧ J k wr ∧ W.heap.size ≤ wr.heap.size) (fun v _ => m + 1 - (intOf v).toNat)
  case atStart => exact ⟨0, 0, Nat.zero_le _, by simp, rfl, H0.out, Nat.le_refl _⟩
  case round =>
    obtain ⟨k, i, hk, hi, rfl, hj, hsz⟩ := hrel
    have HI := Lib.hid hi
    have HJI := Lib.hid hj
    obtain ⟨q1, q2⟩ := (HS.out k wr hj).cells
    clear hi
    by_cases hlt : k < L
    · have him : i + S ≤ m := by
        have h1 : (k + 1) * S ≤ L * S := Nat.mul_le_mul_right _ hlt
        rw [Nat.add_mul, Nat.one_mul] at h1
        have := HI.out
        have := HM.out
        omega
      have hdk : decide (i < m) = true := by simp; omega
      have hcp : i < cap := by omega
      have hp1 : p1 < wr.heap.size := World.block_lt_of_cell? wr _ q1
      have hp2 : p2 < wr.heap.size := World.block_lt_of_cell? wr _ q2
      have hmin : min (S : Int) ((m - i : Nat) : Int) = (S : Int) := by omega
      gi_wp2
      refine wpIn_wide.2 ?_
      refine wp_region_calm (by kernel_rfl) (by kernel_rfl) ?_
      repeat (go_big_quiet_step (fail))
      refine wpQuiet_nil ?_
      rintro _ ⟨pz, rfl⟩
      have hbz : Below wr.heap.size wr (later wr pz) := below_later wr pz
      obtain ⟨fn, tmps, assign, body, hy, hR⟩ := HY.out k (later wr pz) (HJ.out _ _ _ HJI.out (hbz.mono hsz) (CellsSame.below hbz)) hlt (Nat.le_trans hsz hbz.size)
      unfold encM at hy
      rw [← HI.out] at hy
      have HR := Lib.hid hR
      clear hR hbz hj
      gi_wp2
      refine HR.out.mono ?_
      rintro e W3 (⟨rfl, hJ3, hk3⟩ | ⟨rfl, hJx3⟩)
      · have HJ3 := Lib.hid hJ3
        obtain ⟨r1, r2⟩ := (HS.out _ _ hJ3).cells
        have hs3 := hk3.size
        clear hk3 hJ3 q1 q2
        gi_wp2
        go_roundw
        case rel => exact ⟨k + 1, i + S, by omega, by rw [Nat.add_mul, Nat.one_mul, HI.out], by go_num, HJ3.out, by simp at hs3; omega⟩
        case measure => simp [intOf]; omega
      · gi_wp2
        refine bodyPost_ret (results_none rfl _ _ _) rfl ?_
        exact ⟨⟨_, rfl⟩, .inr hJx3⟩
    · obtain rfl : k = L := by omega
      have hdk : decide (i < m) = false := by simp; have := HI.out; have := HM.out; omega
      clear hj
      gi_wp2
      go_end0
      exact ⟨⟨_, rfl⟩, .inl HJI.out⟩
end Go.Proofs.YtkoiknmijjiicaaGreatDoor

/- Chapter 4: Print, of a right map. -/
namespace Go.Proofs.YtkoiknmijjiicaaGreatDoor
set_option linter.unusedVariables false
set_option linter.unusedSimpArgs false
open Go.RowKit Go Ntt
def IsB (b : Nat) (l : List UInt8) (W : World) : Prop := Lib.IsBuilderF 127 5 b b (Lib.byteCells l) W
theorem bAt_same {T e : TypeId} {B b : Nat} {p : Value} {bs : List Value} {W W' : World} (h : Lib.BuilderAtF T e B b p bs W) (hc : CellsSame W W') : Lib.BuilderAtF T e B b p bs W' := by
  obtain ⟨h1, v, h2, ⟨h3, h4⟩, h5⟩ := h
  refine ⟨h1, v, hc _ _ _ _ h2, ⟨h3, ?_⟩, h5⟩
  rcases h4 with h4 | ⟨g, cap, cur, fz, k1, k2, k3, k4⟩
  · exact .inl h4
  · exact .inr ⟨g, cap, cur, fz, k1, k2, hc _ _ _ _ k3, k4⟩
theorem IsB.same {b : Nat} {l : List UInt8} {W W' : World} (h : IsB b l W) (hc : CellsSame W W') : IsB b l W' := h.elim (fun h => .inl (bAt_same h hc)) (fun h => .inr (bAt_same h hc))
theorem IsB.fresh {W : World} {b : Nat} (hb : W.heap.size = b) : IsB b [] (W.alloc (.cells #[.pointer none, .slice none 0 0] 127)) := by
  subst hb
  exact Lib.IsBuilderF.of (Lib.fresh_isBuilder _ _ W)
theorem IsB.lt {b : Nat} {l : List UInt8} {W : World} (h : IsB b l W) : b < W.heap.size := h.elim (fun h => h.lt) (fun h => h.lt)
/-- A text is written. -/
theorem wp_worldL {P : Program} {c : Code} {Q : Exit → Act → World → Prop} {a : Act} {w : World} (F : World → Prop) (hf : F w) (h : ∀ W, F W → Code.wp P c Q a W) : Code.wp P c Q a w := h w hf
theorem write_b (b : Nat) (l t : List UInt8) (w : World) (h : IsB b l w) (hl : l.length + t.length ≤ 140737488355328) :
    Calls Tryz.prog 69 #[.pointer (some ⟨b, 0, none⟩), .string ⟨t.toArray⟩] w fun e w' => (∃ v, e = .returned v) ∧ IsB b (l ++ t) w' ∧ Below b w w' ∧ Lib.OthersKept 5 (some b) w w' := by
  refine (writeString_k b b (Lib.byteCells l) ⟨t.toArray⟩ w h ?_ (Nat.le_of_lt h.lt)).mono ?_
  · rw [Lib.byteCells_length]
    simpa [ByteArray.size] using hl
  · rintro e w' ⟨rfl, h1, h2, h3⟩
    refine ⟨⟨_, rfl⟩, .inr ?_, h2, h3⟩
    rw [Lib.byteCells_append, ← Lib.strCells_toArray t]
    exact h1
theorem callsIn_round {l m : Nat} {P : Program} {f : FuncId} {args : Array Value} {w : World} {R : Ending → World → Prop} (h : Calls P f args w R) : CallsIn (Fence.wide.inRound l) m P f args w R := callsIn_wide (n := m).2 h
/-- The body of the first range over a function in a code. -/
def rangeBody : Code → Option Code
  | .seq a b => match rangeBody a with | some c => some c | none => rangeBody b
  | .cond _ a b => match rangeBody a with | some c => some c | none => rangeBody b
  | .block _ c => rangeBody c
  | .loop c => rangeBody c
  | .scope c => rangeBody c
  | .rangeFunc _ _ _ body => some body
  | _ => none
/-- How long texts are. -/
theorem join_bd : ∀ l : List (List UInt8), (Lib.join l [32]).length ≤ Lib.lens l + l.length
  | [] => by simp [Lib.join, Lib.lens]
  | x :: r => by rw [Lib.join_length]; simp; omega
def Fits (n : Int) : Prop := -9223372036854775808 ≤ n ∧ n ≤ 9223372036854775807
theorem lens_app (a b : List (List UInt8)) : Lib.lens (a ++ b) = Lib.lens a + Lib.lens b := by unfold Lib.lens; simp
theorem fits_small {n : Int} (h1 : -1000000 ≤ n) (h2 : n ≤ 1000000) : Fits n := ⟨by omega, by omega⟩
theorem keepT_others {e : TypeId} {b B : Nat} {W W' : World} (h : Lib.OthersKept e (some b) W W') (hb : b < B) (hs : W.heap.size ≤ W'.heap.size) : KeepT e B W W' :=
  ⟨hs, fun k h1 h2 h3 => by
    obtain ⟨o, ho⟩ : ∃ o, W.heap[k]? = some o := ⟨_, Array.getElem?_eq_getElem h2⟩
    rw [ho]
    exact h k o ho (fun e => by cases e; omega) (fun c fz e => h3 c fz (by rw [ho, e]))⟩
theorem cells_new (w : World) (l : List Value) (T : TypeId) (j : Nat) (u : Value) (h : l[j]? = some u) : (w.alloc (.cells l.toArray T)).cell? ((⟨w.heap.size, 0, none⟩ : Addr).add j) = some u := by
  have : (⟨w.heap.size, 0, none⟩ : Addr).add j = ⟨w.heap.size, j, none⟩ := by simp [Addr.add]; omega
  rw [this, World.cell?_alloc_new]
  simpa using h
/-- A phase as a word; the words of a line; the lines. -/
def wordZ (p : Int) : ByteArray := if nvB p then itoaS p else ⟨#[42]⟩
def lineZ (z : Nat → Int) (i0 : Nat) : Nat → List ByteArray
  | 0 => []
  | s + 1 => lineZ z i0 s ++ [wordZ (z (i0 + s))]
theorem lineZ_len (z : Nat → Int) (i0 : Nat) : ∀ s, (lineZ z i0 s).length = s
  | 0 => rfl
  | s + 1 => by rw [lineZ, List.length_append, lineZ_len z i0 s]; rfl
def lineB (z : Nat → Int) (i0 s : Nat) : List UInt8 := Lib.join ((lineZ z i0 s).map (·.data.toList)) [32] ++ [10]
def linesZ (z : Nat → Int) (C : Nat) : Nat → List UInt8
  | 0 => []
  | l + 1 => linesZ z C l ++ lineB z (l * C) C
def headZ (R C : Int) : List UInt8 := [112, 104, 97, 115, 101, 115, 32] ++ Lib.itoa R ++ [32] ++ Lib.itoa C ++ [10]
def printZ (R C : Nat) (zs : List Int) : List UInt8 := headZ R C ++ linesZ (intAt zs) C R
theorem wordZ_size {p : Int} (h : Fits p) : (wordZ p).data.toList.length ≤ 21 := by
  unfold wordZ
  split
  · have := Lib.itoa_length_le p h.1 h.2
    simpa [itoaS] using this
  · decide
theorem lineZ_lens {z : Nat → Int} (h : ∀ k, Fits (z k)) (i0 : Nat) : ∀ s, Lib.lens ((lineZ z i0 s).map (·.data.toList)) ≤ 21 * s
  | 0 => by simp [lineZ, Lib.lens]
  | s + 1 => by
    have h1 := lineZ_lens h i0 s
    have h2 := wordZ_size (h (i0 + s))
    rw [lineZ, List.map_append, lens_app]
    simp only [List.map_cons, List.map_nil, Lib.lens, List.sum_cons, List.sum_nil] at h1 ⊢
    omega
theorem lineJ_len {z : Nat → Int} (h : ∀ k, Fits (z k)) (i0 s : Nat) : (Lib.join ((lineZ z i0 s).map (·.data.toList)) [32]).length ≤ 22 * s := by
  have h1 := join_bd ((lineZ z i0 s).map (·.data.toList))
  have h2 := lineZ_lens h i0 s
  rw [List.length_map, lineZ_len] at h1
  omega
theorem linesZ_len {z : Nat → Int} (h : ∀ k, Fits (z k)) {C : Nat} (hC : C ≤ 64) : ∀ k, (linesZ z C k).length ≤ k * 3000
  | 0 => by simp [linesZ]
  | k + 1 => by
    have h1 := linesZ_len h hC k
    have h2 := lineJ_len h (k * C) C
    rw [linesZ, List.length_append]
    unfold lineB
    rw [List.length_append, List.length_singleton]
    omega
theorem itoaS_size (n : Int) (h0 : -9223372036854775808 ≤ n) (h1 : n ≤ 9223372036854775807) : (itoaS n).size ≤ 21 := by
  have := Lib.itoa_length_le n h0 h1
  simpa [itoaS, ByteArray.size] using this
theorem headZ_len {R C : Int} (hR : 0 ≤ R ∧ R ≤ 64) (hC : 0 ≤ C ∧ C ≤ 64) : (headZ R C).length ≤ 60 := by
  have h1 := Lib.itoa_length_le R (by omega) (by omega)
  have h2 := Lib.itoa_length_le C (by omega) (by omega)
  unfold headZ
  simp only [List.length_append, List.length_cons, List.length_nil]
  omega
theorem badd4 (a b : Array UInt8) : (⟨a⟩ : ByteArray) ++ ⟨b⟩ = ⟨a ++ b⟩ := by
  apply ByteArray.ext
  simp
theorem MapOk.fits {R C : Nat} {zs : List Int} (h : MapOk R C zs) (k : Nat) : Fits (intAt zs k) := by
  have := h.bd k
  exact ⟨by omega, by omega⟩
/-- What is known at the loop of Print. -/
structure PStM (w WL : World) (Bb b off n cap S p1 p2 : Nat) (l : List UInt8) (W : World) : Prop where
  bel : Below w.heap.size w W
  sz : WL.heap.size ≤ W.heap.size
  bld : IsB Bb l W
  chk : ChunkM p1 p2 b off n cap S W
theorem PStM.keep {w WL W W' : World} {Bb b off n cap S p1 p2 : Nat} {l : List UInt8} (h : PStM w WL Bb b off n cap S p1 p2 l W) (hw : w.heap.size ≤ WL.heap.size) (h1 : p1 < WL.heap.size) (h2 : p2 < WL.heap.size) (hb : Below WL.heap.size W W') (hc : CellsSame W W') : PStM w WL Bb b off n cap S p1 p2 l W' :=
  ⟨h.bel.trans (hb.mono hw), Nat.le_trans h.sz hb.size, h.bld.same hc, hc _ _ _ _ h.chk.1, hc _ _ _ _ h.chk.2⟩
def LsSt (W : World) (l : List ByteArray) (u : Value) (wr : World) : Prop := wr.ownsRow W.heap.size 9 1 u l.length (wordsC l) ∧ Below W.heap.size W wr
set_option maxRecDepth 20000 in
set_option maxHeartbeats 4000000 in
theorem printBodyM (body : Code) (hbody : Tryz.f22.body.bind rangeBody = some body) (n C cap b off Bb p1 p2 k m l : Nat) (z : Nat → Int) (w WL W : World) (I : World → Prop) (Ix : Code → World → Prop) (l0 : List UInt8)
    (hkS : k * C + C ≤ n) (hn : n ≤ 100000) (s1 : 1 ≤ C) (s2 : C ≤ 64) (hbw : b < w.heap.size) (hwb : w.heap.size < Bb) (hBb : Bb < WL.heap.size) (hwl : w.heap.size ≤ WL.heap.size) (hp1 : p1 < WL.heap.size) (hp2 : p2 < WL.heap.size) (hpb1 : p1 ≠ Bb) (hpb2 : p2 ≠ Bb) (hs : ∀ j, j < n → w.cell? ⟨b, off + j, none⟩ = some (.int .i64 (z j))) (hfit : ∀ j, Fits (z j)) (ht : Tab w)
    (hl0 : l0.length ≤ 1000000) (hpl : PStM w WL Bb b off n cap C p1 p2 l0 W)
    (hgo : ∀ W', PStM w WL Bb b off n cap C p1 p2 (l0 ++ lineB z (k * C) C) W' → I W')
    (u0 u1 u2 u3 u4 u7 u8 u9 u10 u11 u12 u13 u14 u15 u16 u17 u18 u19 u20 u21 u22 u23 u24 u25 u26 u27 u28 u29 u30 u31 u32 u33 u34 u35 u36 u37 u38 u39 u40 u41 u42 u43 u44 u45 u46 u47 u48 u49 u50 u51 u52 : Value) :
    body.wpIn (Fence.wide.inRound l) (m + 2) Tryz.prog (boundPostT 5 WL.heap.size I Ix W) { tmps := #[u0, u1, u2, u3, u4, .pointer (some ⟨Bb, 0, none⟩), .slice (some ⟨b, off + k * C, none⟩) C C, u7, u8, u9, u10, u11, u12, u13, u14, u15, u16, u17, u18, u19, u20, u21, u22, u23, u24, u25, u26, u27, u28, u29, u30, u31, u32, u33, u34, u35, u36, u37, u38, u39, u40, u41, u42, u43, u44, u45, u46, u47, u48, u49, u50, u51, u52], defers := [] } W := by
  unfold Tryz.f22 at hbody
  simp only [Option.bind_some, rangeBody, Option.some.injEq] at hbody
  subst hbody
  obtain ⟨i0, hi0, hz0, hz1, hz2⟩ := info_parts infoS
  have HS := Lib.hid hs
  have HF := Lib.hid hfit
  have HT := Lib.hid (ht.below hpl.bel)
  have HPL := Lib.hid hpl
  have HGO := Lib.hid hgo
  have hwW : w.heap.size ≤ W.heap.size := hpl.bel.size
  have hsW := hpl.sz
  have hbelW := hpl.bel
  have HBW := Lib.hid hbelW
  have HKS := Lib.hid hkS
  clear hs hfit ht hpl hgo hbelW hkS
  gi_wp2
  gi_loopw [7, 35] (fun v i wr => ∃ (s : Nat) (u : Value), s ≤ C ∧ i = .int .i64 s ∧ u = v ∧ LsSt W (lineZ z (k * C) s) u wr) (fun _ i _ => C - (intOf i).toNat)
  case atStart => exact ⟨0, _, Nat.zero_le _, rfl, rfl, World.ownsRow_nil _ _ _ _, Below.refl _ _⟩
  case round =>
    obtain ⟨s, u, hs, rfl, rfl, hst, hbel⟩ := hrel
    have HBEL := Lib.hid hbel
    have hbs := hbel.size
    by_cases hlt : s < C
    · have hds : decide ((s : Int) < (C : Int)) = true := by simp; omega
      have hk0 : (0 : Int) ≤ (s : Int) := by omega
      have hk1 : (s : Int) < (C : Int) := by omega
      have ck := ((HBW.out.trans (hbel.mono hwW)).cell (p := ⟨b, off + (k * C + s), none⟩) hbw).trans (HS.out (k * C + s) (by have := HKS.out; omega))
      rw [← Nat.add_assoc] at ck
      obtain ⟨ua, uc, rfl⟩ := own_slice hst
      have HOW := Lib.hid hst
      have hll : (lineZ z (k * C) s).length ≤ 128 := by rw [lineZ_len]; omega
      have HNX := Lib.hid (show lineZ z (k * C) (s + 1) = lineZ z (k * C) s ++ [wordZ (z (k * C + s))] from rfl)
      have hfp := HF.out (k * C + s)
      obtain ⟨p, hp⟩ : ∃ p, z (k * C + s) = p := ⟨_, rfl⟩
      rw [hp] at ck HNX hfp
      obtain ⟨ls, hls⟩ : ∃ ls, lineZ z (k * C) s = ls := ⟨_, rfl⟩
      rw [hls] at HOW HNX hll
      simp only [hls]
      have hbr : b < wr.heap.size := by omega
      by_cases hv : p = 1000000000000
      · have hpb : (p != 1000000000000) = false := by simpa using hv
        have HN2 := Lib.hid (show wordZ p = ⟨#[42]⟩ by unfold wordZ nvB; rw [if_neg (by simpa using hv)])
        clear hst hbel hp hls hv hfp
        gi_wp2_with (first | (gi_at_builtin; refine wpListIn_append_own _ rfl _ _ 110 rfl W.heap.size 9 i0 (.string ⟨#[]⟩) 1 16 Tryz.underlying110 hi0 hz0 hz1 hz2 rfl (by decide) _ _ _ rfl (HOW.out.alloc _) ⟨wr.heap.size, 0, none⟩ 1 1 [.string ⟨#[42]⟩] (by first | rfl | (simp; done) | (simp; rfl)) rfl ?c1 ?c2 ?c3 ?c4 ?c5 ?_))
        case c1 =>
          intro j u hj
          rcases j with _ | j
          · simp at hj; subst hj; (first | (simp [Addr.add, go_sem]; done) | simp [Addr.add, go_sem, ↓IntWalk.iteOmega])
          · simp at hj
        case c2 => intro x hx; simp at hx; subst hx; rfl
        case c3 => unfold maxLen; omega
        case c4 => omega
        case c5 => simp; omega
        intro v' w2 hown' hgrow _
        obtain ⟨g', cc', rfl⟩ := row_slice hown' (by omega)
        have HN := Lib.hid (show LsSt W (lineZ z (k * C) (s + 1)) (.slice (some ⟨g', 0, none⟩) (ls.length + 1) cc') w2 from by
          rw [HNX.out, HN2.out]
          refine ⟨?_, HBEL.out.trans (((Below.refl _ _).alloc (by omega) _).grown hgrow (by simp; omega) (fun g hg => (HOW.out.lt g hg).1))⟩
          rw [words_snoc, List.length_append]
          exact hown')
        clear hown' hgrow
        gi_wp2
        go_roundw
        case rel => exact ⟨s + 1, _, by omega, by go_num, rfl, HN.out⟩
        case measure => simp [intOf]; omega
      · have hpb : (p != 1000000000000) = true := by simpa using hv
        have HN2 := Lib.hid (show wordZ p = itoaS p by unfold wordZ nvB; rw [if_pos (by simpa using hv)])
        have HIT := Lib.hid (show Calls Tryz.prog 70 #[.int .i64 p] wr fun e w' => e = .returned (.string (itoaS p)) ∧ Below wr.heap.size wr w' from itoa_any p hfp.1 hfp.2 wr (HT.out.below hbel))
        clear hst hbel hp hls hv hfp
        gi_wp2_with (first | (refine ⟨trivial, ?_⟩; gi_at_call 70; refine (callsIn_round HIT.out).mono ?_; rintro e w1 ⟨rfl, hb⟩; have hw1 := hb.size; have HB1 := Lib.hid hb; have HO1 := Lib.hid (own_below HOW.out hb); clear hb) | (gi_at_builtin; refine wpListIn_append_own _ rfl _ _ 110 rfl W.heap.size 9 i0 (.string ⟨#[]⟩) 1 16 Tryz.underlying110 hi0 hz0 hz1 hz2 rfl (by decide) _ _ _ rfl (HO1.out.alloc _) ⟨w1.heap.size, 0, none⟩ 1 1 [.string (itoaS p)] (by first | rfl | (simp; done) | (simp; rfl)) rfl ?c1 ?c2 ?c3 ?c4 ?c5 ?_))
        case c1 =>
          intro j u hj
          rcases j with _ | j
          · simp at hj; subst hj; (first | (simp [Addr.add, go_sem]; done) | simp [Addr.add, go_sem, ↓IntWalk.iteOmega])
          · simp at hj
        case c2 => intro x hx; simp at hx; subst hx; rfl
        case c3 => unfold maxLen; omega
        case c4 => omega
        case c5 => simp; omega
        intro v' w2 hown' hgrow _
        obtain ⟨g', cc', rfl⟩ := row_slice hown' (by omega)
        have HN := Lib.hid (show LsSt W (lineZ z (k * C) (s + 1)) (.slice (some ⟨g', 0, none⟩) (ls.length + 1) cc') w2 from by
          rw [HNX.out, HN2.out]
          refine ⟨?_, HBEL.out.trans ((((HB1.out.mono hbs)).alloc (by omega) _).grown hgrow (by simp; omega) (fun g hg => (HOW.out.lt g hg).1))⟩
          rw [words_snoc, List.length_append]
          exact hown')
        clear hown' hgrow
        gi_wp2
        go_roundw
        case rel => exact ⟨s + 1, _, by omega, by go_num, rfl, HN.out⟩
        case measure => simp [intOf]; omega
    · obtain rfl : s = C := by omega
      have hds : decide ((s : Int) < (s : Int)) = false := by simp
      have hlen : (lineZ z (k * s) s).length = s := lineZ_len z (k * s) s
      have hjl := lineJ_len HF.out (k * s) s
      obtain ⟨ws, hws⟩ : ∃ ws, lineZ z (k * s) s = ws := ⟨_, rfl⟩
      have HWS0 := Lib.hid hws
      rw [hws] at hst hlen hjl
      obtain ⟨g, uc, rfl, hg1, hg2⟩ := World.ownsRow.form hst (by omega)
      obtain ⟨jb, hjb⟩ : ∃ jb : ByteArray, (⟨(Lib.join (ws.map (·.data.toList)) [32]).toArray⟩ : ByteArray) = jb := ⟨_, rfl⟩
      have hjs : jb.size ≤ 2000 := by
        rw [← hjb]
        show (Lib.join (ws.map (·.data.toList)) [32]).toArray.size ≤ 2000
        simp only [List.size_toArray]
        omega
      have HJO := Lib.hid (show Calls Tryz.prog 72 #[.slice (some ⟨g, 0, none⟩) ws.length uc, .string ⟨#[32]⟩] wr fun e w' => e = .returned (.string jb) ∧ Below wr.heap.size wr w' from by
        rw [← hjb]
        refine Tryz.strings_Join g 0 uc ws ⟨#[32]⟩ wr (fun j x hx => ?_) hg2 (by omega) (own_cap hst) (Nat.le_trans hjl (by omega))
        rw [Nat.zero_add, hst.cellAt j (by rw [Nat.mul_one]; exact (List.getElem?_eq_some_iff.1 hx).1)]
        unfold wordsC
        rw [List.getElem?_map, hx]
        rfl)
      have y1 : ¬ 9223372036854775807 < jb.size + 1 := by omega
      obtain ⟨t0, ht0⟩ : ∃ t0, lineB z (k * s) s = t0 := ⟨_, rfl⟩
      have HBD := Lib.hid (HPL.out.bld.same (CellsSame.below hbel))
      have htl : t0.length ≤ 2000 := by
        rw [← ht0]
        unfold lineB
        rw [hws, List.length_append, List.length_singleton]
        omega
      have HWS := Lib.hid (show ∀ W', IsB Bb l0 W' → Calls Tryz.prog 69 #[.pointer (some ⟨Bb, 0, none⟩), .string (jb ++ ⟨#[10]⟩)] W' fun e w' => (∃ v, e = .returned v) ∧ IsB Bb (l0 ++ t0) w' ∧ Below Bb W' w' ∧ Lib.OthersKept 5 (some Bb) W' w' from fun W' h => by
        have := write_b Bb l0 t0 W' h (by omega)
        have e : (jb ++ ⟨#[10]⟩ : ByteArray) = ⟨t0.toArray⟩ := by
          rw [← hjb, ← ht0]
          unfold lineB
          rw [hws, badd4]
          simp
        rw [e]
        exact this)
      rw [ht0] at HGO
      simp only [hlen] at HJO ⊢
      clear hst hbel hjl ht0 hjb hws htl hlen
      gi_wp2_with (first | (refine ⟨trivial, ?_⟩; gi_at_call 72; with_reducible refine (callsIn_round HJO.out).mono ?_; rintro e w9 ⟨rfl, hb⟩; have HB9 := Lib.hid hb; have HI9 := Lib.hid (HBD.out.same (CellsSame.below hb)); clear hb) | (refine ⟨trivial, ?_⟩; gi_at_call 69; with_reducible refine (callsIn_round (HWS.out _ HI9.out)).mono ?_; rintro e w10 ⟨⟨v10, rfl⟩, h1, h2, h3⟩; have HW10 := Lib.hid (And.intro h1 (And.intro h2 h3)); clear h1 h2 h3))
      obtain ⟨h1, h2, h3⟩ := HW10.out
      have hs9 := HB9.out.size
      have hs10 := h2.size
      have HKT := Lib.hid (show KeepT 5 WL.heap.size W w10 from (KeepT.below (HBEL.out.trans (HB9.out.mono hbs))).trans (keepT_others h3 hBb hs10))
      refine ⟨HKT.out, HGO.out _ ⟨?_, by omega, h1, ?_⟩⟩
      · exact HBW.out.trans (((HBEL.out.trans (HB9.out.mono hbs)).mono hwW).trans (h2.mono (by omega)))
      · obtain ⟨c1, c2⟩ := HPL.out.chk
        exact ⟨h3 _ _ (((HBEL.out.trans (HB9.out.mono hbs)).block _ (by omega)).trans c1) (by simpa using hpb1) (by intro c fz e; cases e), h3 _ _ (((HBEL.out.trans (HB9.out.mono hbs)).block _ (by omega)).trans c2) (by simpa using hpb2) (by intro c fz e; cases e)⟩
end Go.Proofs.YtkoiknmijjiicaaGreatDoor

/- Chapter 4: Print, of a right map. -/
namespace Go.Proofs.YtkoiknmijjiicaaGreatDoor
set_option linter.unusedVariables false
set_option linter.unusedSimpArgs false
open Go.RowKit Go Ntt
theorem wp_worldP4 {P : Program} {c : Code} {Q : Exit → Act → World → Prop} {a : Act} {w : World} (F : World → Prop) (hf : F w) (h : ∀ W, F W → Code.wp P c Q a W) : Code.wp P c Q a w := h w hf
theorem any_worldZ {G : World → Prop} {w : World} (F : World → Prop) (hf : F w) (h : ∀ W, F W → G W) : G w := h w hf
set_option maxRecDepth 20000 in
set_option maxHeartbeats 4000000 in
theorem fPrint (R C : Nat) (zs : List Int) (a : Option Addr) (cap : Nat) (w : World) (hm : MapOk R C zs) (hv : IntsV w (.slice a zs.length cap) zs) (hcn : zs.length ≤ cap) (ht : Tab w) :
    Calls Tryz.prog 22 #[.agg #[.int .i64 R, .int .i64 C, .slice a zs.length cap]] w fun e w' => e = .returned (.tuple #[.string ⟨(printZ R C zs).toArray⟩, .int .i64 0]) ∧ Below w.heap.size w w' := by
  have hn4 := hm.size
  have l1 := hm.r1
  have l2 := hm.r2
  have s1 := hm.c1
  have s2 := hm.c2
  have HN := Lib.hid hm.len
  have hpos : 0 < zs.length := by rw [hm.len]; exact Nat.mul_pos (by omega) (by omega)
  have HIE := Lib.hid (show ∀ W, Below w.heap.size w W → _ from fun W hW => mapErr_any R C zs _ W (by omega) (hv.below hW) (e0 := 0) (by rw [hm.err]))
  have HFT := Lib.hid hm.fits
  obtain ⟨-, a0, c0, he0, h4⟩ := hv
  simp only [Value.slice.injEq, true_and] at he0
  obtain ⟨rfl, rfl⟩ := he0
  obtain ⟨b, off, rfl, hbw, hs⟩ := h4 hpos
  have HS := Lib.hid hs
  have HT := Lib.hid ht
  obtain ⟨n, hn⟩ : ∃ n, zs.length = n := ⟨_, rfl⟩
  rw [hn] at HN HIE HS hcn hn4 ⊢
  have HP := Lib.hid (show printZ R C zs = headZ R C ++ linesZ (intAt zs) C R from rfl)
  rw [HP.out]
  generalize intAt zs = z at *
  clear hs h4 hm ht hpos hn HP
  refine callsIn_wide.1 (callsIn_of_wp_marks (F := Fence.wide) (n := 9) Tryz.func22 rfl trivial (wpIn_wide.2 ?_) rfl)
  simp only [Tryz.ntmps22, List.size_toArray, List.length_cons, List.length_nil, Nat.reduceAdd, Nat.reduceSub, Array.replicate_succ, Array.replicate_zero, List.push_toArray, List.append_toArray, List.nil_append, List.cons_append]
  go_wp2_with (first | (go_at_call 58; (with_reducible refine (HIE.out _ (by (repeat' (first | with_reducible exact Below.refl _ _ | (with_reducible refine below_later_of ?_ ?_ _) | (with_reducible refine Below.alloc ?_ ?_ _) | (with_reducible refine Below.setCell ?_ ?_ _) | (with_reducible refine Below.drew ?_) | (simp; done) | (simp; omega) | omega)))).mono ?_); rintro e w' ⟨rfl, hb⟩; obtain ⟨pe, rfl⟩ := later_of_below hb; clear hb))
  obtain ⟨Bb, hBb⟩ : ∃ Bb, Bb = w.heap.size + 1 + pe.os.size := ⟨_, rfl⟩
  refine wp_worldP4 (fun W => (W.cell? ⟨w.heap.size, 0, none⟩ = some (.int .i64 R) ∧ W.cell? ⟨w.heap.size, 1, none⟩ = some (.int .i64 C) ∧ W.cell? ⟨w.heap.size, 2, none⟩ = some (.slice (some ⟨b, off, none⟩) n cap)) ∧ IsB Bb [] W ∧ Below w.heap.size w W ∧ Bb < W.heap.size) ⟨⟨(by (first | (simp [go_sem]; done) | simp [go_sem, ↓IntWalk.iteOmega])), (by (first | (simp [go_sem]; done) | simp [go_sem, ↓IntWalk.iteOmega])), (by (first | (simp [go_sem]; done) | simp [go_sem, ↓IntWalk.iteOmega]))⟩, IsB.fresh (by rw [hBb]; simp), (by (repeat' (first | with_reducible exact Below.refl _ _ | (with_reducible refine below_later_of ?_ ?_ _) | (with_reducible refine Below.alloc ?_ ?_ _) | (with_reducible refine Below.setCell ?_ ?_ _) | (with_reducible refine Below.drew ?_) | (simp; done) | (simp; omega) | omega))), by rw [hBb]; simp⟩ ?_
  rintro W1 ⟨⟨k0, k1, k2⟩, hbd, hb1, hlt1⟩
  simp only [← hBb]
  have hBb1 : w.heap.size < Bb := by omega
  have hwB : w.heap.size < W1.heap.size := by omega
  have HTB := Lib.hid (show ∀ W, Below W1.heap.size W1 W → Tab W from fun W hW => HT.out.below (hb1.trans (hW.mono hb1.size)))
  have HI1 := Lib.hid (show ∀ W, Below W1.heap.size W1 W → Calls Tryz.prog 70 #[.int .i64 R] W fun e w' => e = .returned (.string (itoaS R)) ∧ Below W.heap.size W w' from fun W hW => itoa_any R (by omega) (by omega) W (HTB.out W hW))
  have HI2 := Lib.hid (show ∀ W, Below W1.heap.size W1 W → Calls Tryz.prog 70 #[.int .i64 C] W fun e w' => e = .returned (.string (itoaS C)) ∧ Below W.heap.size W w' from fun W hW => itoa_any C (by omega) (by omega) W (HTB.out W hW))
  have HBF := Lib.hid (show ∀ W, Below W1.heap.size W1 W → IsB Bb [] W from fun W hW => hbd.same (CellsSame.below hW))
  have hhl := headZ_len (R := (R : Int)) (C := (C : Int)) (by omega) (by omega)
  have z1 := itoaS_size (R : Int) (by omega) (by omega)
  have z2 := itoaS_size (C : Int) (by omega) (by omega)
  have HWS := Lib.hid (show ∀ W', IsB Bb [] W' → Calls Tryz.prog 69 #[.pointer (some ⟨Bb, 0, none⟩), .string (⟨#[112, 104, 97, 115, 101, 115, 32]⟩ ++ itoaS R ++ ⟨#[32]⟩ ++ itoaS C ++ ⟨#[10]⟩)] W' fun e w' => (∃ v, e = .returned v) ∧ IsB Bb (headZ R C) w' ∧ Below Bb W' w' ∧ Lib.OthersKept 5 (some Bb) W' w' from fun W' h => by
    have := write_b Bb [] (headZ R C) W' h (by simp; omega)
    rw [List.nil_append] at this
    have e : (⟨#[112, 104, 97, 115, 101, 115, 32]⟩ ++ itoaS R ++ ⟨#[32]⟩ ++ itoaS C ++ ⟨#[10]⟩ : ByteArray) = ⟨(headZ R C).toArray⟩ := by unfold itoaS headZ; simp only [badd4]; simp
    rw [e]
    exact this)
  have y1 : ¬ 9223372036854775807 < 7 + (itoaS (R : Int)).size := by omega
  have y2 : ¬ 9223372036854775807 < 7 + (itoaS (R : Int)).size + 1 := by omega
  have y3 : ¬ 9223372036854775807 < 7 + (itoaS (R : Int)).size + 1 + (itoaS (C : Int)).size := by omega
  have y4 : ¬ 9223372036854775807 < 7 + (itoaS (R : Int)).size + 1 + (itoaS (C : Int)).size + 1 := by omega
  have HB1 := Lib.hid hb1
  have HBB := Lib.hid hBb
  have HK := Lib.hid (And.intro k0 (And.intro k1 k2))
  have HHL := Lib.hid hhl
  clear hb1 hbd hBb hhl z1 z2
  refine wp_region_calm_tail 10 (by kernel_rfl) (by kernel_rfl) ?_
  simp only [List.take_succ_cons, List.take_zero, List.drop_succ_cons, List.drop_zero]
  repeat (go_big_quiet_step (first | (go_at_call 70; with_reducible exact calm_of (HI1.out _ (by (repeat' (first | with_reducible exact Below.refl _ _ | (with_reducible refine below_later_of ?_ ?_ _) | (with_reducible refine Below.alloc ?_ ?_ _) | (with_reducible refine Below.setCell ?_ ?_ _) | (with_reducible refine Below.drew ?_) | (simp; done) | (simp; omega) | omega))))) | (go_at_call 70; with_reducible exact calm_of (HI2.out _ (by (repeat' (first | with_reducible exact Below.refl _ _ | (with_reducible refine below_later_of ?_ ?_ _) | (with_reducible refine Below.alloc ?_ ?_ _) | (with_reducible refine Below.setCell ?_ ?_ _) | (with_reducible refine Below.drew ?_) | (simp; done) | (simp; omega) | omega)))))))
  refine wpQuiet_nil ?_
  rintro _ ⟨pz, rfl⟩
  clear k0 k1 k2
  go_wp2_with (first | (go_at_call 69; (with_reducible refine (HWS.out _ (HBF.out _ (by (repeat' (first | with_reducible exact Below.refl _ _ | (with_reducible refine below_later_of ?_ ?_ _) | (with_reducible refine Below.alloc ?_ ?_ _) | (with_reducible refine Below.setCell ?_ ?_ _) | (with_reducible refine Below.drew ?_) | (simp; done) | (simp; omega) | omega))))).mono ?_); rintro e W3 ⟨⟨v9, rfl⟩, h1, h2, h3⟩; have e0 := (h2.cell (p := ⟨w.heap.size, 0, none⟩) hBb1).trans (show (later W1 pz).cell? ⟨w.heap.size, 0, none⟩ = some (.int .i64 R) by (first | (simp [go_sem, HK.out.1]; done) | simp [go_sem, HK.out.1, ↓IntWalk.iteOmega])); have e1 := (h2.cell (p := ⟨w.heap.size, 1, none⟩) hBb1).trans (show (later W1 pz).cell? ⟨w.heap.size, 1, none⟩ = some (.int .i64 C) by (first | (simp [go_sem, HK.out.2.1]; done) | simp [go_sem, HK.out.2.1, ↓IntWalk.iteOmega])); have e2 := (h2.cell (p := ⟨w.heap.size, 2, none⟩) hBb1).trans (show (later W1 pz).cell? ⟨w.heap.size, 2, none⟩ = some (.slice (some ⟨b, off, none⟩) n cap) by (first | (simp [go_sem, HK.out.2.2]; done) | simp [go_sem, HK.out.2.2, ↓IntWalk.iteOmega])); have HBD3 := Lib.hid h1; have HB3 := Lib.hid (show Below w.heap.size w W3 from (HB1.out.trans ((below_later W1 pz).mono HB1.out.size)).trans (h2.mono (by omega))); have hlt3 := h1.lt; clear h1 h2 h3) | (go_at_call 71; (with_reducible refine (chunkM_any (some ⟨b, off, none⟩) n cap (C : Int) _ (by omega)).mono ?_); rintro e w5 ⟨rfl, hck, hsz, hb⟩; have HCH := Lib.hid hck; have HSZ := Lib.hid hsz; have HB5 := Lib.hid hb; clear hck hsz hb))
  clear y1 y2 y3 y4 HI1 HI2 HTB HBF HWS hlt1 hwB HB1 HK
  obtain ⟨q1, q2⟩ := HCH.out
  have hb5 := HB5.out
  have hsz5 := HSZ.out
  have hp1 : W3.heap.size < w5.heap.size := by omega
  have hp2 : W3.heap.size + 1 < w5.heap.size := by omega
  have hw35 : w.heap.size ≤ W3.heap.size := by omega
  have HPS := Lib.hid (show PStM w w5 Bb b off n cap C W3.heap.size (W3.heap.size + 1) (headZ R C ++ linesZ z C 0) w5 from ⟨HB3.out.trans (hb5.mono hw35), Nat.le_refl _, by simpa [linesZ] using HBD3.out.same (CellsSame.below hb5), q1, q2⟩)
  have HL0 := Lib.hid HHL.out
  clear q1 q2 hb5 hsz5 e0 e1 e2 HCH HSZ HB5 HBD3 HB3 HHL
  refine wpIn_wide.1 (wpIn_rangeCapT 5 (ChunkM W3.heap.size (W3.heap.size + 1) b off n cap C) (n := 9) rfl (by omega) (gf := 110) (cap := #[.pointer (some ⟨W3.heap.size, 0, none⟩), .pointer (some ⟨W3.heap.size + 1, 0, none⟩)]) rfl trivial (enters_of Tryz.func110 (by kernel_rfl) rfl) (N := R) (enc := encM b off C) (fun k => rfl)
    (fun W _ => chunkM_iter 5 8 (by omega) W3.heap.size (W3.heap.size + 1) b off n cap R C HN.out hcn l1 l2 s1 s2 W)
    (fun k W => PStM w w5 Bb b off n cap C W3.heap.size (W3.heap.size + 1) (headZ R C ++ linesZ z C k) W)
    (fun _ _ => False)
    (fun k W1 W2 h hb hc => h.keep (by omega) hp1 hp2 hb hc)
    (fun c W1 W2 h hb hc => h)
    (fun k W h => h.chk)
    HPS.out
    (fun T k => (T.setIfInBounds 32 (.slice (some ⟨b, off + k * C, none⟩) C C)).setIfInBounds 6 (.slice (some ⟨b, off + k * C, none⟩) C C))
    ?assign ?body ?done ?stop)
  case assign =>
    intro l k W K hK
    simp only [encM]
    simp only [List.setIfInBounds_toArray, List.set_cons_succ, List.set_cons_zero] at hK
    gi_wp2
    exact hK
  case body =>
    rintro l k W hpl hkN hWs
    have hkS : k * C + C ≤ n := by
      have h1 : (k + 1) * C ≤ R * C := Nat.mul_le_mul_right _ hkN
      rw [Nat.add_mul, Nat.one_mul] at h1
      have := HN.out
      omega
    have hll := linesZ_len HFT.out s2 k
    exact printBodyM _ (by kernel_rfl) n C cap b off Bb W3.heap.size (W3.heap.size + 1) k 5 l z w w5 W _ _ _ hkS (by omega) s1 s2 hbw hBb1 (by omega) (by omega) hp1 hp2 (by omega) (by omega) HS.out HFT.out HT.out (by rw [List.length_append]; have := HL0.out; omega) hpl (fun W' h => by rw [linesZ, ← List.append_assoc]; exact h) _ _ _ _ _ _ _ _ _ _ _ _ _ _ _ _ _ _ _ _ _ _ _ _ _ _ _ _ _ _ _ _ _ _ _ _ _ _ _ _ _ _ _ _ _ _ _ _ _ _ _
  case done =>
    rintro W hpl hD
    obtain ⟨tx, htx⟩ : ∃ tx, headZ R C ++ linesZ z C R = tx := ⟨_, rfl⟩
    have hbd := hpl.bld
    rw [htx] at hbd
    have HBD := Lib.hid (show Lib.IsBuilderF 127 5 Bb Bb (Lib.byteCells tx) W from hbd)
    have HNE := Lib.hid (show tx ≠ [] by rw [← htx]; unfold headZ; simp)
    have HTX := Lib.hid htx
    have HB := Lib.hid hpl.bel
    have HDD := Lib.hid hD
    have hsW := hpl.sz
    clear hpl hbd hD htx
    go_wp2_with (first | (go_at_call 73; (with_reducible refine (Tryz.Builder_String_k Bb Bb tx _ HBD.out HNE.out).mono ?_); rintro e w11 ⟨rfl, h1, h2, h3⟩; have HW11 := Lib.hid (And.intro h2 h3); clear h1 h2 h3))
    obtain ⟨h2, h3⟩ := HW11.out
    have hD11 := h3 _ _ HDD.out (by simp; omega) (by intro c fz e; cases e)
    refine ⟨by simp, .inl ⟨_, _, rfl, run_takeDeferred hD11, ?_⟩⟩
    have hb : Below w5.heap.size w11 (w11.putObj w5.heap.size (.deferred none)) := below_putObj (Nat.le_refl _) _
    refine ⟨_, ?_, by rw [HTX.out], HB.out.trans ((h2.mono (by omega)).trans (hb.mono (by omega)))⟩
    simp [results, Tryz.results22, go_sem]
  case stop =>
    rintro c W h hD
    exact h.elim
end Go.Proofs.YtkoiknmijjiicaaGreatDoor
