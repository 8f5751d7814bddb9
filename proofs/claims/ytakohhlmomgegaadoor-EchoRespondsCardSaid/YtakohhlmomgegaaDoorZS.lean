import Derived.Test.YtakohhlmomgegaaDoorZK
import Derived.Test.YtakohhlmomgegaaDoorZN
import Derived.Test.YtakohhlmomgegaaDoorZR
import Derived.Deep.CutRange
import Derived.Deep.RegionHeld3
import Derived.Lib.ItoaLen
import Derived.Test.YtakohhlmomgegaaDoorZO
import Derived.Test.YtakohhlmomgegaaDoorZG
import Derived.Test.YtakohhlmomgegaaDoorZM
/- Chapter 1: the parts of a sample, the check of an image. -/
namespace Go.Proofs.YtakohhlmomgegaaDoor
set_option linter.unusedVariables false
set_option linter.unusedSimpArgs false
open Go.RowKit
/-- The check of the first samples. -/
def chkP (X Y : Nat → Int) : Nat → Int
  | 0 => 0
  | k + 1 => (31 * ((31 * chkP X Y k + X k + 2048) % 65521) + Y k + 2048) % 65521
theorem chkP_bd (X Y : Nat → Int) (k : Nat) : 0 ≤ chkP X Y k ∧ chkP X Y k < 65521 := by
  cases k with
  | zero => exact (show (0 : Int) ≤ 0 ∧ (0 : Int) < 65521 by decide)
  | succ k => exact ⟨Int.emod_nonneg _ (by decide), Int.emod_lt_of_pos _ (by decide)⟩
@[go_sem] theorem idx_ints0 (x y : Value) (w : World) : (Instr.index 66 (.agg #[x, y]) (.int .i64 0)).run Tryd.prog w = .ok x w := by kernel_rfl
@[go_sem] theorem idx_ints1 (x y : Value) (w : World) : (Instr.index 66 (.agg #[x, y]) (.int .i64 1)).run Tryd.prog w = .ok y w := by kernel_rfl
set_option maxRecDepth 20000 in
set_option maxHeartbeats 2000000 in
theorem check_any (L S : Int) (n cap b off : Nat) (f : Nat → Nat × Nat) (X Y : Nat → Int) (w : World) (hn : n ≤ 100000) (hbw : b < w.heap.size) (hs : SamplesAt w b off n f) (hp : SmallS n f X Y 2047) :
    Calls Tryd.prog 125 #[.agg #[.int .i64 L, .int .i64 S, .slice (some ⟨b, off, none⟩) n cap]] w fun e w' => e = .returned (.int .i64 (chkP X Y n)) ∧ Below w.heap.size w w' := by
  have HS := Lib.hid hs
  have HPP := Lib.hid hp
  clear hs hp
  go_enter Tryd.func125, Tryd.ntmps125
  go_wp2
  go_loop [3, 13] (fun z i => ∃ k : Nat, k ≤ n ∧ i = .int .i64 k ∧ z = .int .i64 (chkP X Y k)) (fun _ i => n - (intOf i).toNat)
  case atStart => exact ⟨0, Nat.zero_le _, rfl, rfl⟩
  case round =>
    obtain ⟨k, hk, rfl, rfl⟩ := hrel
    by_cases hlt : k < n
    · have hdk : decide ((k : Int) < (n : Int)) = true := by simp; omega
      have ck := HS.out k hlt
      obtain ⟨⟨p1, p2, p3, p4⟩, ⟨p5, p6⟩, p7, p8⟩ := HPP.out k hlt
      have HP := Lib.hid (fun w => parts_any (f k).1 (f k).2 (X k) (Y k) w (flI_single p1 (by omega) (by omega)) (flI_single p2 (by omega) (by omega)))
      obtain ⟨c0, c1⟩ := chkP_bd X Y k
      have HN := Lib.hid (show chkP X Y (k + 1) = (31 * ((31 * chkP X Y k + X k + 2048) % 65521) + Y k + 2048) % 65521 from rfl)
      generalize chkP X Y k = c at c0 c1 HN ⊢
      generalize X k = x at p5 p6 HP HN
      generalize Y k = y at p7 p8 HP HN
      clear p1 p2 p3 p4
      have m1 := Int.emod_nonneg (31 * c + x + 2048) (show (65521 : Int) ≠ 0 by decide)
      have m2 := Int.emod_lt_of_pos (31 * c + x + 2048) (show (0 : Int) < 65521 by decide)
      go_wp2_with (first | (go_at_call 110; (with_reducible refine (HP.out _).mono ?_); rintro e w' ⟨rfl, rfl⟩))
      refine wp_loop_rounds 3 ?_
      rw [rounds_succ]
      go_wp2
      rw [rounds_succ]
      go_wp2
      rw [rounds_succ]
      go_wp2
      go_round
      case rel => exact ⟨k + 1, by omega, by go_num, by rw [HN.out]⟩
      case measure => simp [intOf]; omega
    · obtain rfl : k = n := by omega
      have hdk : decide ((k : Int) < (k : Int)) = false := by simp
      go_wp2
      go_ret
      exact ⟨rfl, (by (repeat' (first | with_reducible exact Below.refl _ _ | (with_reducible refine below_later_of ?_ ?_ _) | (with_reducible refine Below.alloc ?_ ?_ _) | (with_reducible refine Below.setCell ?_ ?_ _) | (with_reducible refine Below.drew ?_) | (simp; done) | (simp; omega) | omega)))⟩
end Go.Proofs.YtakohhlmomgegaaDoor

/- Door seat: Print, of a right image. -/
namespace Go.Proofs.YtakohhlmomgegaaDoor
set_option linter.unusedVariables false
set_option linter.unusedSimpArgs false
open Go.RowKit Go Ntt
def imgS : ByteArray := ⟨#[105, 109, 97, 103, 101]⟩
/-- The numbers of a line: the parts of its samples. -/
def lineI (X Y : Nat → Int) (i0 : Nat) : Nat → List Int
  | 0 => []
  | s + 1 => lineI X Y i0 s ++ [X (i0 + s), Y (i0 + s)]
theorem lineI_len (X Y : Nat → Int) (i0 s : Nat) : (lineI X Y i0 s).length = 2 * s := by
  induction s with
  | zero => rfl
  | succ s ih => rw [lineI, List.length_append, ih]; simp; omega
/-- The lines, as Print writes them. -/
def linesB (X Y : Nat → Int) (S : Nat) : Nat → List UInt8
  | 0 => []
  | l + 1 => linesB X Y S l ++ joinedB [] (lineI X Y (l * S) S)
def headB (L S c : Int) : List UInt8 := joinedB [imgS] [L, S, c]
def printB (L S n : Nat) (X Y : Nat → Int) : List UInt8 := headB L S (chkP X Y n) ++ linesB X Y S L
def IsB (b : Nat) (l : List UInt8) (W : World) : Prop := Lib.IsBuilderF 163 5 b b (Lib.byteCells l) W
theorem bAt_same {T e : TypeId} {B b : Nat} {p : Value} {bs : List Value} {W W' : World} (h : Lib.BuilderAtF T e B b p bs W) (hc : CellsSame W W') : Lib.BuilderAtF T e B b p bs W' := by
  obtain ⟨h1, v, h2, ⟨h3, h4⟩, h5⟩ := h
  refine ⟨h1, v, hc _ _ _ _ h2, ⟨h3, ?_⟩, h5⟩
  rcases h4 with h4 | ⟨g, cap, cur, fz, k1, k2, k3, k4⟩
  · exact .inl h4
  · exact .inr ⟨g, cap, cur, fz, k1, k2, hc _ _ _ _ k3, k4⟩
theorem IsB.same {b : Nat} {l : List UInt8} {W W' : World} (h : IsB b l W) (hc : CellsSame W W') : IsB b l W' := h.elim (fun h => .inl (bAt_same h hc)) (fun h => .inr (bAt_same h hc))
theorem IsB.fresh {W : World} {b : Nat} (hb : W.heap.size = b) : IsB b [] (W.alloc (.cells #[.pointer none, .slice none 0 0] 163)) := by
  subst hb
  exact Lib.IsBuilderF.of (Lib.fresh_isBuilder _ _ W)
theorem IsB.lt {b : Nat} {l : List UInt8} {W : World} (h : IsB b l W) : b < W.heap.size := h.elim (fun h => h.lt) (fun h => h.lt)
/-- A text is written. -/
theorem wp_worldL {P : Program} {c : Code} {Q : Exit → Act → World → Prop} {a : Act} {w : World} (F : World → Prop) (hf : F w) (h : ∀ W, F W → Code.wp P c Q a W) : Code.wp P c Q a w := h w hf
theorem write_b (b : Nat) (l t : List UInt8) (w : World) (h : IsB b l w) (hl : l.length + t.length ≤ 140737488355328) :
    Calls Tryd.prog 123 #[.pointer (some ⟨b, 0, none⟩), .string ⟨t.toArray⟩] w fun e w' => (∃ v, e = .returned v) ∧ IsB b (l ++ t) w' ∧ Below b w w' ∧ Lib.OthersKept 5 (some b) w w' := by
  refine (writeString_k b b (Lib.byteCells l) ⟨t.toArray⟩ w h ?_ (Nat.le_of_lt h.lt)).mono ?_
  · rw [Lib.byteCells_length]
    simpa [ByteArray.size] using hl
  · rintro e w' ⟨rfl, h1, h2, h3⟩
    refine ⟨⟨_, rfl⟩, .inr ?_, h2, h3⟩
    rw [Lib.byteCells_append, ← Lib.strCells_toArray t]
    exact h1
end Go.Proofs.YtakohhlmomgegaaDoor

/- Door seat: Print, of a right image: a line. -/
namespace Go.Proofs.YtakohhlmomgegaaDoor
set_option linter.unusedVariables false
set_option linter.unusedSimpArgs false
open Go.RowKit Go Ntt
theorem callsIn_round {l m : Nat} {P : Program} {f : FuncId} {args : Array Value} {w : World} {R : Ending → World → Prop} (h : Calls P f args w R) : CallsIn (Fence.wide.inRound l) m P f args w R := callsIn_wide (n := m).2 h
/-- The body of the first range over a function in a code. -/
def rangeBody : Code → Option Code
  | .seq a b => match rangeBody a with | some c => some c | none => rangeBody b
  | .cond _ a b => match rangeBody a with | some c => some c | none => rangeBody b
  | .block _ c => rangeBody c
  | .loop c => rangeBody c
  | .scope c => rangeBody c
  | .rangeFunc _ _ _ body => some body
  | _ => none
/-- How long texts are. -/
theorem join_bd : ∀ l : List (List UInt8), (Lib.join l [32]).length ≤ Lib.lens l + l.length
  | [] => by simp [Lib.join, Lib.lens]
  | x :: r => by rw [Lib.join_length]; simp; omega
def Fits (n : Int) : Prop := -9223372036854775808 ≤ n ∧ n ≤ 9223372036854775807
theorem lens_itoa : ∀ ns : List Int, (∀ n ∈ ns, Fits n) → Lib.lens ((ns.map itoaS).map (·.data.toList)) ≤ 21 * ns.length
  | [], _ => by simp [Lib.lens]
  | n :: ns, h => by
    have h1 := lens_itoa ns (fun m hm => h m (List.mem_cons_of_mem _ hm))
    obtain ⟨h2, h3⟩ := h n (List.mem_cons_self ..)
    have h4 := Lib.itoa_length_le n h2 h3
    unfold Lib.lens at h1 ⊢
    simp only [List.map_cons, List.sum_cons, List.length_cons] at h1 ⊢
    have h5 : (itoaS n).data.toList.length = (Lib.itoa n).length := by unfold itoaS; simp
    omega
theorem lens_app (a b : List (List UInt8)) : Lib.lens (a ++ b) = Lib.lens a + Lib.lens b := by unfold Lib.lens; simp
theorem join_len (ws : List ByteArray) (ns : List Int) (h : ∀ n ∈ ns, Fits n) : (Lib.join ((ws ++ ns.map itoaS).map (·.data.toList)) [32]).length ≤ Lib.lens (ws.map (·.data.toList)) + ws.length + 22 * ns.length := by
  refine Nat.le_trans (join_bd _) ?_
  rw [List.map_append, lens_app]
  have := lens_itoa ns h
  simp only [List.length_append, List.length_map]
  omega
theorem joined_len (ws : List ByteArray) (ns : List Int) (h : ∀ n ∈ ns, Fits n) : (joinedB ws ns).length ≤ Lib.lens (ws.map (·.data.toList)) + ws.length + 22 * ns.length + 1 := by
  unfold joinedB
  rw [List.length_append]
  have := join_len ws ns h
  simp at this ⊢
  omega
theorem fits_small {n : Int} (h1 : -1000000 ≤ n) (h2 : n ≤ 1000000) : Fits n := ⟨by omega, by omega⟩
theorem lineI_mem {X Y : Nat → Int} {i0 : Nat} : ∀ {s : Nat} {n : Int}, n ∈ lineI X Y i0 s → ∃ j, j < s ∧ (n = X (i0 + j) ∨ n = Y (i0 + j))
  | 0, n, h => by simp [lineI] at h
  | s + 1, n, h => by
    rw [lineI, List.mem_append] at h
    rcases h with h | h
    · obtain ⟨j, h1, h2⟩ := lineI_mem h
      exact ⟨j, by omega, h2⟩
    · simp at h
      exact ⟨s, by omega, h⟩
theorem lineI_fits {X Y : Nat → Int} {f : Nat → Nat × Nat} {n i0 s : Nat} (hp : SmallS n f X Y 2047) (h : i0 + s ≤ n) : ∀ m ∈ lineI X Y i0 s, Fits m := fun m hm => by
  obtain ⟨j, h1, h2⟩ := lineI_mem hm
  obtain ⟨-, ⟨h3, h4⟩, h5, h6⟩ := hp (i0 + j) (by omega)
  rcases h2 with rfl | rfl
  · exact fits_small (by omega) (by omega)
  · exact fits_small (by omega) (by omega)
theorem linesB_len {X Y : Nat → Int} {f : Nat → Nat × Nat} {n S : Nat} (hp : SmallS n f X Y 2047) (hS : S ≤ 64) : ∀ k, k * S ≤ n → (linesB X Y S k).length ≤ k * 3000
  | 0, _ => by simp [linesB]
  | k + 1, h => by
    rw [Nat.add_mul, Nat.one_mul] at h
    have h1 := linesB_len hp hS k (by omega)
    rw [linesB, List.length_append]
    have h2 := joined_len [] (lineI X Y (k * S) S) (lineI_fits hp h)
    rw [lineI_len] at h2
    have h3 : Lib.lens (([] : List ByteArray).map (·.data.toList)) = 0 := rfl
    rw [h3] at h2
    simp at h2
    omega
theorem headB_len {L S c : Int} (bL : 0 ≤ L ∧ L ≤ 64) (bS : 0 ≤ S ∧ S ≤ 64) (bc : 0 ≤ c ∧ c < 65521) : (headB L S c).length ≤ 100 := by
  unfold headB
  refine Nat.le_trans (joined_len _ _ ?_) (by simp only [List.length_cons, List.length_nil]; have : Lib.lens ([imgS].map (·.data.toList)) = 5 := rfl; omega)
  intro n hn
  simp at hn
  rcases hn with rfl | rfl | rfl <;> exact fits_small (by omega) (by omega)
theorem infoI : (Tryd.prog.info? 3).map (fun i => (i.zero, i.size, i.bytes)) = some (some (.int .i64 0), 1, 8) := by kernel_rfl
theorem keepT_others {e : TypeId} {b B : Nat} {W W' : World} (h : Lib.OthersKept e (some b) W W') (hb : b < B) (hs : W.heap.size ≤ W'.heap.size) : KeepT e B W W' :=
  ⟨hs, fun k h1 h2 h3 => by
    obtain ⟨o, ho⟩ : ∃ o, W.heap[k]? = some o := ⟨_, Array.getElem?_eq_getElem h2⟩
    rw [ho]
    exact h k o ho (fun e => by cases e; omega) (fun c fz e => h3 c fz (by rw [ho, e]))⟩
theorem cells_new (w : World) (l : List Value) (T : TypeId) (j : Nat) (u : Value) (h : l[j]? = some u) : (w.alloc (.cells l.toArray T)).cell? ((⟨w.heap.size, 0, none⟩ : Addr).add j) = some u := by
  have : (⟨w.heap.size, 0, none⟩ : Addr).add j = ⟨w.heap.size, j, none⟩ := by simp [Addr.add]; omega
  rw [this, World.cell?_alloc_new]
  simpa using h
/-- What is known at the loop of Print. -/
structure PSt (w WL : World) (Bb b off n cap S p1 p2 : Nat) (l : List UInt8) (W : World) : Prop where
  bel : Below w.heap.size w W
  sz : WL.heap.size ≤ W.heap.size
  bld : IsB Bb l W
  chk : ChunkS p1 p2 b off n cap S W
theorem PSt.keep {w WL W W' : World} {Bb b off n cap S p1 p2 : Nat} {l : List UInt8} (h : PSt w WL Bb b off n cap S p1 p2 l W) (hw : w.heap.size ≤ WL.heap.size) (h1 : p1 < WL.heap.size) (h2 : p2 < WL.heap.size) (hb : Below WL.heap.size W W') (hc : CellsSame W W') : PSt w WL Bb b off n cap S p1 p2 l W' :=
  ⟨h.bel.trans (hb.mono hw), Nat.le_trans h.sz hb.size, h.bld.same hc, hc _ _ _ _ h.chk.1, hc _ _ _ _ h.chk.2⟩
def LnSt (W : World) (l : List Int) (u : Value) (wr : World) : Prop := wr.ownsRow W.heap.size 3 1 u l.length (l.map (Value.int .i64)) ∧ Below W.heap.size W wr
set_option maxRecDepth 20000 in
set_option maxHeartbeats 4000000 in
theorem printBody (body : Code) (hbody : Tryd.f73.body.bind rangeBody = some body) (L S n cap b off Bb p1 p2 k m l : Nat) (f : Nat → Nat × Nat) (X Y : Nat → Int) (w WL W : World) (I : World → Prop) (Ix : Code → World → Prop) (l0 : List UInt8)
    (hkS : k * S + S ≤ n) (hn : n ≤ 100000) (s1 : 1 ≤ S) (s2 : S ≤ 64) (hbw : b < w.heap.size) (hwb : w.heap.size < Bb) (hBb : Bb < WL.heap.size) (hwl : w.heap.size ≤ WL.heap.size) (hp1 : p1 < WL.heap.size) (hp2 : p2 < WL.heap.size) (hpb1 : p1 ≠ Bb) (hpb2 : p2 ≠ Bb) (hs : SamplesAt w b off n f) (hp : SmallS n f X Y 2047) (ht : Tab w)
    (hl0 : l0.length ≤ 1000000) (hpl : PSt w WL Bb b off n cap S p1 p2 l0 W)
    (hgo : ∀ W', PSt w WL Bb b off n cap S p1 p2 (l0 ++ joinedB [] (lineI X Y (k * S) S)) W' → I W')
    (u0 u1 u2 u3 u4 u7 u8 u9 u10 u11 u12 u13 u14 u15 u16 u17 u18 u19 u20 u21 u22 u23 u24 u25 u26 u27 u28 u29 u30 u31 u32 u33 u34 u35 u36 u37 u38 u39 u40 u41 u42 u43 u44 u45 u46 u47 u48 u49 u50 u51 u52 u53 : Value) :
    body.wpIn (Fence.wide.inRound l) (m + 2) Tryd.prog (boundPostT 5 WL.heap.size I Ix W) { tmps := #[u0, u1, u2, u3, u4, .pointer (some ⟨Bb, 0, none⟩), .slice (some ⟨b, off + k * S, none⟩) S S, u7, u8, u9, u10, u11, u12, u13, u14, u15, u16, u17, u18, u19, u20, u21, u22, u23, u24, u25, u26, u27, u28, u29, u30, u31, u32, u33, u34, u35, u36, u37, u38, u39, u40, u41, u42, u43, u44, u45, u46, u47, u48, u49, u50, u51, u52, u53], defers := [] } W := by
  unfold Tryd.f73 at hbody
  simp only [Option.bind_some, rangeBody, Option.some.injEq] at hbody
  subst hbody
  obtain ⟨i0, hi0, hz0, hz1, hz2⟩ := info_parts infoI
  have HS := Lib.hid hs
  have HPP := Lib.hid hp
  have HT := Lib.hid (ht.below hpl.bel)
  have HPL := Lib.hid hpl
  have HGO := Lib.hid hgo
  have hwW : w.heap.size ≤ W.heap.size := hpl.bel.size
  have hsW := hpl.sz
  have hbelW := hpl.bel
  have HBW := Lib.hid hbelW
  have HKS := Lib.hid hkS
  clear hs hp ht hpl hgo hbelW hkS
  gi_wp2
  gi_loopw [7, 35] (fun v i wr => ∃ (s : Nat) (u : Value), s ≤ S ∧ i = .int .i64 s ∧ u = v ∧ LnSt W (lineI X Y (k * S) s) u wr) (fun _ i _ => S - (intOf i).toNat)
  case atStart => exact ⟨0, _, Nat.zero_le _, rfl, rfl, World.ownsRow_nil _ _ _ _, Below.refl _ _⟩
  case round =>
    obtain ⟨s, u, hs, rfl, rfl, hst, hbel⟩ := hrel
    have HBEL := Lib.hid hbel
    have hbs := hbel.size
    by_cases hlt : s < S
    · have hds : decide ((s : Int) < (S : Int)) = true := by simp; omega
      have hk0 : (0 : Int) ≤ (s : Int) := by omega
      have hk1 : (s : Int) < (S : Int) := by omega
      have ck := ((HBW.out.trans (hbel.mono hwW)).cell (p := ⟨b, off + (k * S + s), none⟩) hbw).trans (HS.out (k * S + s) (by have := HKS.out; omega))
      rw [← Nat.add_assoc] at ck
      obtain ⟨⟨q1, q2, q3, q4⟩, ⟨q5, q6⟩, q7, q8⟩ := HPP.out (k * S + s) (by have := HKS.out; omega)
      have HP := Lib.hid (fun w => parts_any (f (k * S + s)).1 (f (k * S + s)).2 (X (k * S + s)) (Y (k * S + s)) w (flI_single q1 (by omega) (by omega)) (flI_single q2 (by omega) (by omega)))
      obtain ⟨ua, uc, rfl⟩ := own_slice hst
      have HOW := Lib.hid hst
      have HLL := Lib.hid (lineI_len X Y (k * S) s)
      have hll : (lineI X Y (k * S) s).length ≤ 128 := by rw [lineI_len]; omega
      have HNX := Lib.hid (show lineI X Y (k * S) (s + 1) = lineI X Y (k * S) s ++ [X (k * S + s), Y (k * S + s)] from rfl)
      obtain ⟨x, hx⟩ : ∃ x, X (k * S + s) = x := ⟨_, rfl⟩
      obtain ⟨y, hy⟩ : ∃ y, Y (k * S + s) = y := ⟨_, rfl⟩
      rw [hx, hy] at HP HNX
      obtain ⟨ls, hls⟩ : ∃ ls, lineI X Y (k * S) s = ls := ⟨_, rfl⟩
      rw [hls] at HOW HNX HLL hll
      simp only [hls]
      have hbr : b < wr.heap.size := by omega
      clear hst hbel q1 q2 q3 q4 q5 q6 q7 q8 hx hy hls
      gi_wp2_with (first | (refine ⟨trivial, ?_⟩; gi_at_call 110; refine (callsIn_round (HP.out _)).mono ?_; rintro e w' ⟨rfl, rfl⟩) | (gi_at_builtin; refine wpListIn_append_own _ rfl _ _ 53 rfl W.heap.size 3 i0 (.int .i64 0) 1 8 Tryd.underlying53 hi0 hz0 hz1 hz2 rfl (by decide) _ _ _ rfl (HOW.out.alloc _) ⟨wr.heap.size, 0, none⟩ 2 2 [.int .i64 x, .int .i64 y] (by first | rfl | (simp; done) | (simp; rfl)) rfl ?c1 ?c2 ?c3 ?c4 ?c5 ?_))
      case c1 => exact cells_new _ [_, _] _
      case c2 => intro x hx; simp at hx; rcases hx with rfl | rfl <;> rfl
      case c3 => unfold maxLen; omega
      case c4 => omega
      case c5 => simp; omega
      intro v' w2 hown' hgrow _
      obtain ⟨g', cc', rfl⟩ := row_slice hown' (by omega)
      have HN := Lib.hid (show LnSt W (lineI X Y (k * S) (s + 1)) (.slice (some ⟨g', 0, none⟩) (ls.length + 2) cc') w2 from by
        rw [HNX.out]
        refine ⟨?_, HBEL.out.trans (((Below.refl _ _).alloc (by omega) _).grown hgrow (by simp; omega) (fun g hg => (HOW.out.lt g hg).1))⟩
        simpa using hown')
      clear hown' hgrow
      gi_wp2
      go_roundw
      case rel => exact ⟨s + 1, _, by omega, by go_num, rfl, HN.out⟩
      case measure => simp [intOf]; omega
    · obtain rfl : s = S := by omega
      have hds : decide ((s : Int) < (s : Int)) = false := by simp
      have hlen : (lineI X Y (k * s) s).length = 2 * s := lineI_len X Y (k * s) s
      have hfit := lineI_fits HPP.out HKS.out
      obtain ⟨g, uc, rfl, hg1, hg2⟩ := World.ownsRow.form hst (by omega)
      have HJ := Lib.hid (joined_some g 0 uc [] (lineI X Y (k * s) s) (.slice none 0 0) wr (.inl ⟨rfl, rfl⟩) (HT.out.below hbel) (by omega) hg2 (fun j hj => by
          rw [Nat.zero_add, hst.cellAt j (by simpa using hj)]
          unfold intAt
          simp [hj]) (fun j hj => hfit _ (by
          unfold intAt
          rw [List.getElem?_eq_getElem hj]
          exact List.getElem_mem hj)) (by simp; omega) (Nat.le_trans (join_len [] _ hfit) (by
          rw [hlen]
          have : Lib.lens (([] : List ByteArray).map (·.data.toList)) = 0 := rfl
          rw [this]
          simp
          omega)))
      have hjl := joined_len [] _ hfit
      rw [hlen] at hjl
      obtain ⟨t0, ht0⟩ : ∃ t0, joinedB [] (lineI X Y (k * s) s) = t0 := ⟨_, rfl⟩
      have HLN := Lib.hid (show l0.length + t0.length ≤ 140737488355328 by
        have h0 : Lib.lens (([] : List ByteArray).map (·.data.toList)) = 0 := rfl
        rw [ht0, h0] at hjl
        simp at hjl
        omega)
      rw [ht0] at HJ HGO
      have HBD := Lib.hid (HPL.out.bld.same (CellsSame.below hbel))
      generalize (lineI X Y (k * s) s).length = ll at HJ ⊢
      clear hst hbel hfit hlen hjl ht0
      gi_wp2_with (first | (refine ⟨trivial, ?_⟩; gi_at_call 124; refine (callsIn_round HJ.out).mono ?_; rintro e w9 ⟨rfl, hb⟩; have HB9 := Lib.hid hb; have HI9 := Lib.hid (HBD.out.same (CellsSame.below hb)); clear hb) | (refine ⟨trivial, ?_⟩; gi_at_call 123; refine (callsIn_round (write_b Bb l0 t0 _ HI9.out HLN.out)).mono ?_; rintro e w10 ⟨⟨v10, rfl⟩, h1, h2, h3⟩; have HW10 := Lib.hid (And.intro h1 (And.intro h2 h3)); clear h1 h2 h3))
      obtain ⟨h1, h2, h3⟩ := HW10.out
      have hs9 := HB9.out.size
      have hs10 := h2.size
      have HKT := Lib.hid (show KeepT 5 WL.heap.size W w10 from (KeepT.below (HBEL.out.trans (HB9.out.mono hbs))).trans (keepT_others h3 hBb hs10))
      refine ⟨HKT.out, HGO.out _ ⟨?_, by omega, h1, ?_⟩⟩
      · exact HBW.out.trans (((HBEL.out.trans (HB9.out.mono hbs)).mono hwW).trans (h2.mono (by omega)))
      · obtain ⟨c1, c2⟩ := HPL.out.chk
        exact ⟨h3 _ _ (((HBEL.out.trans (HB9.out.mono hbs)).block _ (by omega)).trans c1) (by simpa using hpb1) (by intro c fz e; cases e), h3 _ _ (((HBEL.out.trans (HB9.out.mono hbs)).block _ (by omega)).trans c2) (by simpa using hpb2) (by intro c fz e; cases e)⟩
end Go.Proofs.YtakohhlmomgegaaDoor

/- Door seat: Print, of a right image. -/
namespace Go.Proofs.YtakohhlmomgegaaDoor
set_option linter.unusedVariables false
set_option linter.unusedSimpArgs false
open Go.RowKit Go Ntt
theorem head_law (A C : Nat) (L S c : Int) (w : World) (hA : w.cell? ⟨A, 0, none⟩ = some (.string imgS)) (hA1 : A < w.heap.size) (hC : C < w.heap.size) (c0 : w.cell? ⟨C, 0, none⟩ = some (.int .i64 L)) (c1 : w.cell? ⟨C, 1, none⟩ = some (.int .i64 S)) (c2 : w.cell? ⟨C, 2, none⟩ = some (.int .i64 c))
    (ht : Tab w) (bL : 0 ≤ L ∧ L ≤ 64) (bS : 0 ≤ S ∧ S ≤ 64) (bc : 0 ≤ c ∧ c < 65521) {jl : Nat} (hj : jl = 0) :
    Calls Tryd.prog 124 #[.slice (some ⟨A, 0, none⟩) 1 1, .slice (some ⟨C, jl, none⟩) 3 3] w fun e w' => e = .returned (.string ⟨(headB L S c).toArray⟩) ∧ Below w.heap.size w w' := by
  subst hj
  have hfit : ∀ n ∈ [L, S, c], Fits n := by
    intro n hn
    simp at hn
    rcases hn with rfl | rfl | rfl <;> exact fits_small (by omega) (by omega)
  refine joined_some C 0 3 [imgS] [L, S, c] _ w (.inr ⟨A, rfl, hA1, rfl, fun j u hu => ?_⟩) ht (by simp) hC (fun k hk => ?_) (fun k hk => ?_) (by simp) ?_
  · rcases j with _ | j
    · simp [wordsC] at hu; subst hu; exact hA
    · simp [wordsC] at hu
  · match k, hk with
    | 0, _ => exact c0
    | 1, _ => exact c1
    | 2, _ => exact c2
  · match k, hk with
    | 0, _ => exact hfit L (by simp)
    | 1, _ => exact hfit S (by simp)
    | 2, _ => exact hfit c (by simp)
  · exact Nat.le_trans (join_len _ _ hfit) (by simp only [List.length_cons, List.length_nil]; have : Lib.lens ([imgS].map (·.data.toList)) = 5 := rfl; omega)
theorem wp_worldP {P : Program} {c : Code} {Q : Exit → Act → World → Prop} {a : Act} {w : World} (F : World → Prop) (hf : F w) (h : ∀ W, F W → Code.wp P c Q a W) : Code.wp P c Q a w := h w hf
theorem headB_ne (L S c : Int) (l : List UInt8) : headB L S c ++ l ≠ [] := by unfold headB joinedB; simp
set_option maxRecDepth 20000 in
set_option maxHeartbeats 4000000 in
theorem print_ok (L S n cap b off : Nat) (f : Nat → Nat × Nat) (X Y : Nat → Int) (w : World) (hn : n = L * S) (hcn : n ≤ cap) (l1 : 1 ≤ L) (l2 : L ≤ 64) (s1 : 1 ≤ S) (s2 : S ≤ 64) (hbw : b < w.heap.size) (hs : SamplesAt w b off n f) (hp : SmallS n f X Y 2047) (hie : (imgE L S n f).2 = 0) (ht : Tab w) :
    Calls Tryd.prog 73 #[.agg #[.int .i64 L, .int .i64 S, .slice (some ⟨b, off, none⟩) n cap]] w fun e w' => e = .returned (.tuple #[.string ⟨(printB L S n X Y).toArray⟩, .int .i64 0]) ∧ Below w.heap.size w w' := by
  have hn4 : n ≤ 4096 := by rw [hn]; exact Nat.mul_le_mul l2 s2
  have HIE := Lib.hid (show ∀ W, Below w.heap.size w W → _ from fun W hW => imageErr_any L S n cap f (some ⟨b, off, none⟩) W (by omega) (fun _ => ⟨b, off, rfl, by have := hW.size; omega, hs.below hbw hW⟩) hie)
  have HS := Lib.hid hs
  have HP := Lib.hid hp
  have HN := Lib.hid hn
  have HT := Lib.hid ht
  clear hs hp hie ht hn
  refine callsIn_wide.1 (callsIn_of_wp_marks (F := Fence.wide) (n := 9) Tryd.func73 rfl trivial (wpIn_wide.2 ?_) rfl)
  simp only [Tryd.ntmps73, List.size_toArray, List.length_cons, List.length_nil, Nat.reduceAdd, Nat.reduceSub, Array.replicate_succ, Array.replicate_zero, List.push_toArray, List.append_toArray, List.nil_append, List.cons_append]
  go_wp2_with (first | (go_at_call 78; (with_reducible refine (HIE.out _ (by (repeat' (first | with_reducible exact Below.refl _ _ | (with_reducible refine below_later_of ?_ ?_ _) | (with_reducible refine Below.alloc ?_ ?_ _) | (with_reducible refine Below.setCell ?_ ?_ _) | (with_reducible refine Below.drew ?_) | (simp; done) | (simp; omega) | omega)))).mono ?_); rintro e w' ⟨rfl, hb⟩; obtain ⟨pe, rfl⟩ := later_of_below hb; clear hb))
  obtain ⟨Bb, hBb⟩ : ∃ Bb, Bb = w.heap.size + 1 + pe.os.size := ⟨_, rfl⟩
  refine wp_worldP (fun W => ImgBlk W w.heap.size L S (some ⟨b, off, none⟩) n cap ∧ IsB Bb [] W ∧ Below w.heap.size w W ∧ Bb < W.heap.size) ⟨⟨(by (first | (simp [go_sem]; done) | simp [go_sem, ↓IntWalk.iteOmega])), (by (first | (simp [go_sem]; done) | simp [go_sem, ↓IntWalk.iteOmega])), (by (first | (simp [go_sem]; done) | simp [go_sem, ↓IntWalk.iteOmega]))⟩, IsB.fresh (by rw [hBb]; simp), (by (repeat' (first | with_reducible exact Below.refl _ _ | (with_reducible refine below_later_of ?_ ?_ _) | (with_reducible refine Below.alloc ?_ ?_ _) | (with_reducible refine Below.setCell ?_ ?_ _) | (with_reducible refine Below.drew ?_) | (simp; done) | (simp; omega) | omega))), by rw [hBb]; simp⟩ ?_
  rintro W1 ⟨⟨k0, k1, k2⟩, hbd, hb1, hlt1⟩
  simp only [← hBb]
  have hBb1 : w.heap.size < Bb := by omega
  have hwB : w.heap.size < W1.heap.size := by omega
  obtain ⟨c0, hc0⟩ : ∃ c0, chkP X Y n = c0 := ⟨_, rfl⟩
  have HKB := Lib.hid (chkP_bd X Y n)
  have HCK := Lib.hid (show ∀ W, Below W1.heap.size W1 W → _ from fun W hW => check_any L S n cap b off f X Y W (by omega) (by have := hb1.size; have := hW.size; omega) (HS.out.below hbw (hb1.trans (hW.mono hb1.size))) HP.out)
  rw [hc0] at HKB
  simp only [hc0] at HCK
  have HC0 := Lib.hid hc0
  have HTB := Lib.hid (show ∀ W, Below W1.heap.size W1 W → Tab W from fun W hW => HT.out.below (hb1.trans (hW.mono hb1.size)))
  have HBF := Lib.hid (show ∀ W, Below W1.heap.size W1 W → IsB Bb [] W from fun W hW => hbd.same (CellsSame.below hW))
  have HHL := Lib.hid (show ([] : List UInt8).length + (headB L S c0).length ≤ 140737488355328 by have := headB_len (L := L) (S := S) (c := c0) (by omega) (by omega) HKB.out; simp; omega)
  have HB1 := Lib.hid hb1
  have HBB := Lib.hid hBb
  clear hb1 hbd hBb hc0
  go_cut [5] from 17 to 27 (fun Z wx => Z = .pointer (some ⟨Bb, 0, none⟩) ∧ ImgBlk wx w.heap.size L S (some ⟨b, off, none⟩) n cap ∧ IsB Bb (headB L S c0) wx ∧ Below w.heap.size w wx)
  case first =>
    go_region_held3 (fun w' => w'.cell? ⟨w.heap.size, 0, none⟩ = some (.int .i64 L) ∧ w'.cell? ⟨w.heap.size, 1, none⟩ = some (.int .i64 S) ∧ w'.cell? ⟨w.heap.size, 2, none⟩ = some (.slice (some ⟨b, off, none⟩) n cap))
      (first | exact ⟨k0, k1, k2⟩ | ((first | (simp [go_sem, k0, k1, k2]; done) | simp [go_sem, k0, k1, k2, ↓IntWalk.iteOmega]); done) | (go_split_ands; refine ⟨?_, ?_, ?_⟩ <;> (refine (HW9.out.2.1.cell (p := ⟨w.heap.size, _, none⟩) hBb1).trans ?_; ((first | (simp [go_sem, k0, k1, k2]; done) | simp [go_sem, k0, k1, k2, ↓IntWalk.iteOmega]); done)))) (first | (go_at_call 125; (with_reducible refine (HCK.out _ (by (repeat' (first | with_reducible exact Below.refl _ _ | (with_reducible refine below_later_of ?_ ?_ _) | (with_reducible refine Below.alloc ?_ ?_ _) | (with_reducible refine Below.setCell ?_ ?_ _) | (with_reducible refine Below.drew ?_) | (simp; done) | (simp; omega) | omega)))).mono ?_); rintro e w' ⟨rfl, hb⟩; obtain ⟨pc, rfl⟩ := later_of_below hb; clear hb) | (go_at_call 124; (with_reducible refine (head_law _ _ L S c0 _ (by (first | (simp [go_sem, imgS]; done) | simp [go_sem, imgS, ↓IntWalk.iteOmega])) (by simp <;> omega) (by simp <;> omega) (by (first | (simp [go_sem]; done) | simp [go_sem, ↓IntWalk.iteOmega])) (by (first | (simp [go_sem]; done) | simp [go_sem, ↓IntWalk.iteOmega])) (by (first | (simp [go_sem]; done) | simp [go_sem, ↓IntWalk.iteOmega])) (HTB.out _ (by (repeat' (first | with_reducible exact Below.refl _ _ | (with_reducible refine below_later_of ?_ ?_ _) | (with_reducible refine Below.alloc ?_ ?_ _) | (with_reducible refine Below.setCell ?_ ?_ _) | (with_reducible refine Below.drew ?_) | (simp; done) | (simp; omega) | omega)))) (by omega) (by omega) HKB.out rfl).mono ?_); rintro e w' ⟨rfl, hb⟩; obtain ⟨pj, rfl⟩ := later_of_below hb; clear hb) | (go_at_call 123; (with_reducible refine (write_b Bb [] (headB L S c0) _ (HBF.out _ (by (repeat' (first | with_reducible exact Below.refl _ _ | (with_reducible refine below_later_of ?_ ?_ _) | (with_reducible refine Below.alloc ?_ ?_ _) | (with_reducible refine Below.setCell ?_ ?_ _) | (with_reducible refine Below.drew ?_) | (simp; done) | (simp; omega) | omega)))) HHL.out).mono ?_); rintro e w9 ⟨⟨v9, rfl⟩, h1, h2, h3⟩; have HW9 := Lib.hid (And.intro h1 (And.intro h2 h3)); clear h1 h2 h3))
    all_goals
      rename_i hheld
      obtain ⟨g0, g1, g2⟩ := hheld
      go_wp2_with fail
      go_meet
      obtain ⟨h1, h2, h3⟩ := HW9.out
      refine ⟨rfl, ⟨g0, g1, g2⟩, h1, ?_⟩
      exact (HB1.out.trans (below_mono_of HB1.out.size (by (repeat' (first | with_reducible exact Below.refl _ _ | (with_reducible refine below_later_of ?_ ?_ _) | (with_reducible refine Below.alloc ?_ ?_ _) | (with_reducible refine Below.setCell ?_ ?_ _) | (with_reducible refine Below.drew ?_) | (simp; done) | (simp; omega) | omega))))).trans (h2.mono (by omega))
  case rest =>
    obtain ⟨rfl, ⟨e0, e1, e2⟩, hbd, hb⟩ := hcut
    obtain ⟨W3, hW3⟩ : ∃ W3 : World, W3 = wc := ⟨_, rfl⟩
    subst hW3
    have HBD3 := Lib.hid hbd
    have HB3 := Lib.hid hb
    have hlt3 := hbd.lt
    clear hbd hb k0 k1 k2 HCK HTB HBF HHL hlt1 hwB HB1
    go_wp2_with (first | (go_at_call 112; (with_reducible refine (chunk_any _ _ _ _ _ (by omega)).mono ?_); rintro e w5 ⟨rfl, hck, hsz, hb⟩; have HCH := Lib.hid hck; have HSZ := Lib.hid hsz; have HB5 := Lib.hid hb; clear hck hsz hb))
    obtain ⟨q1, q2⟩ := HCH.out
    have hb5 := HB5.out
    have hsz5 := HSZ.out
    have hp1 : W3.heap.size < w5.heap.size := by omega
    have hp2 : W3.heap.size + 1 < w5.heap.size := by omega
    have hw35 : w.heap.size ≤ W3.heap.size := by omega
    have HPS := Lib.hid (show PSt w w5 Bb b off n cap S W3.heap.size (W3.heap.size + 1) (headB L S c0 ++ linesB X Y S 0) w5 from ⟨HB3.out.trans (hb5.mono hw35), Nat.le_refl _, by simpa [linesB] using HBD3.out.same (CellsSame.below hb5), q1, q2⟩)
    have hl0 := headB_len (L := L) (S := S) (c := c0) (by omega) (by omega) HKB.out
    have HL0 := Lib.hid hl0
    clear q1 q2 hb5 hsz5 e0 e1 e2 HCH HSZ HB5 HBD3 HB3 hl0
    refine wpIn_wide.1 (wpIn_rangeCapT 5 (ChunkS W3.heap.size (W3.heap.size + 1) b off n cap S) (n := 9) rfl (by omega) (gf := 141) (cap := #[.pointer (some ⟨W3.heap.size, 0, none⟩), .pointer (some ⟨W3.heap.size + 1, 0, none⟩)]) rfl trivial (enters_of Tryd.func141 (by kernel_rfl) rfl) (N := L) (enc := encL b off S) (fun k => rfl)
      (fun W _ => chunk_iter 5 8 (by omega) W3.heap.size (W3.heap.size + 1) b off n cap L S HN.out hcn l1 l2 s1 s2 W)
      (fun k W => PSt w w5 Bb b off n cap S W3.heap.size (W3.heap.size + 1) (headB L S c0 ++ linesB X Y S k) W)
      (fun _ _ => False)
      (fun k W1 W2 h hb hc => h.keep (by omega) hp1 hp2 hb hc)
      (fun c W1 W2 h hb hc => h)
      (fun k W h => h.chk)
      HPS.out
      (fun T k => (T.setIfInBounds 32 (.slice (some ⟨b, off + k * S, none⟩) S S)).setIfInBounds 6 (.slice (some ⟨b, off + k * S, none⟩) S S))
      ?assign ?body ?done ?stop)
    case assign =>
      intro l k W K hK
      simp only [encL]
      simp only [List.setIfInBounds_toArray, List.set_cons_succ, List.set_cons_zero] at hK
      gi_wp2
      exact hK
    case body =>
      rintro l k W hpl hkN hWs
      have hkS : k * S + S ≤ n := by
        have h1 : (k + 1) * S ≤ L * S := Nat.mul_le_mul_right _ hkN
        rw [Nat.add_mul, Nat.one_mul] at h1
        have := HN.out
        omega
      have hll := linesB_len HP.out s2 k (by omega)
      exact printBody _ (by kernel_rfl) L S n cap b off Bb W3.heap.size (W3.heap.size + 1) k 5 l f X Y w w5 W _ _ _ hkS (by omega) s1 s2 hbw hBb1 (by omega) (by omega) hp1 hp2 (by omega) (by omega) HS.out HP.out HT.out (by rw [List.length_append]; have := HL0.out; omega) hpl (fun W' h => by rw [linesB, ← List.append_assoc]; exact h) _ _ _ _ _ _ _ _ _ _ _ _ _ _ _ _ _ _ _ _ _ _ _ _ _ _ _ _ _ _ _ _ _ _ _ _ _ _ _ _ _ _ _ _ _ _ _ _ _ _ _ _
    case done =>
      rintro W hpl hD
      obtain ⟨tx, htx⟩ : ∃ tx, headB L S c0 ++ linesB X Y S L = tx := ⟨_, rfl⟩
      have hbd := hpl.bld
      rw [htx] at hbd
      have HBD := Lib.hid (show Lib.IsBuilderF 163 5 Bb Bb (Lib.byteCells tx) W from hbd)
      have HNE := Lib.hid (show tx ≠ [] by rw [← htx]; exact headB_ne _ _ _ _)
      have HTX := Lib.hid (show printB L S n X Y = tx by rw [← htx]; unfold printB; rw [HC0.out])
      have HB := Lib.hid hpl.bel
      have HDD := Lib.hid hD
      have hsW := hpl.sz
      clear hpl hbd hD htx
      go_wp2_with (first | (go_at_call 126; (with_reducible refine (Tryd.Builder_String_k Bb Bb tx _ HBD.out HNE.out).mono ?_); rintro e w11 ⟨rfl, h1, h2, h3⟩; have HW11 := Lib.hid (And.intro h2 h3); clear h1 h2 h3))
      obtain ⟨h2, h3⟩ := HW11.out
      have hD11 := h3 _ _ HDD.out (by simp; omega) (by intro c fz e; cases e)
      refine ⟨by simp, .inl ⟨_, _, rfl, run_takeDeferred hD11, ?_⟩⟩
      have hb : Below w5.heap.size w11 (w11.putObj w5.heap.size (.deferred none)) := below_putObj (Nat.le_refl _) _
      refine ⟨_, ?_, by rw [HTX.out], HB.out.trans ((h2.mono (by omega)).trans (hb.mono (by omega)))⟩
      simp [results, Tryd.results73, go_sem]
    case stop =>
      rintro c W h hD
      exact h.elim
end Go.Proofs.YtakohhlmomgegaaDoor

/- Chapter 1's door seat: base.SameField; the examples with which each statement begins. -/
namespace Go.Proofs.YtakohhlmomgegaaDoor
set_option linter.unusedVariables false
set_option linter.unusedSimpArgs false
open Go.RowKit Ntt
set_option maxHeartbeats 1000000 in
theorem sameField_any (L S L' S' : Int) (n m : Nat) (f g : Nat → Nat × Nat) (v u : Value) (w : World) (hx : SumV w v n f) (hy : SumV w u m g) {c : Bool} (hc : c = true ↔ L = L' ∧ S = S' ∧ SameF n m f g) :
    Calls Tryd.prog 27 #[.agg #[.int .i64 L, .int .i64 S, v], .agg #[.int .i64 L', .int .i64 S', u]] w fun e w' => e = .returned (.bool c) ∧ Below w.heap.size w w' := by
  have HC := Lib.hid hc
  by_cases h1 : L = L'
  · subst h1
    have d1 : (L == L) = true := by simp
    by_cases h2 : S = S'
    · subst h2
      have d2 : (S == S) = true := by simp
      have HSS := Lib.hid (show ∀ W, Below w.heap.size w W → _ from fun W hW => sameSums_any n m f g v u W (hx.below hW) (hy.below hW) (c := c) (by rw [hc]; simp))
      obtain ⟨-, a, cap, rfl, -⟩ := hx
      obtain ⟨-, a', cap', rfl, -⟩ := hy
      clear hc
      go_enter Tryd.func27, Tryd.ntmps27
      go_wp2_with (first | (go_at_call 86; (with_reducible refine (HSS.out _ (by (repeat' (first | with_reducible exact Below.refl _ _ | (with_reducible refine below_later_of ?_ ?_ _) | (with_reducible refine Below.alloc ?_ ?_ _) | (with_reducible refine Below.setCell ?_ ?_ _) | (with_reducible refine Below.drew ?_) | (simp; done) | (simp; omega) | omega)))).mono ?_); rintro e w' ⟨rfl, hb⟩; obtain ⟨pp4, rfl⟩ := later_of_below hb; clear hb))
      go_ret
      exact ⟨rfl, (by (repeat' (first | with_reducible exact Below.refl _ _ | (with_reducible refine below_later_of ?_ ?_ _) | (with_reducible refine Below.alloc ?_ ?_ _) | (with_reducible refine Below.setCell ?_ ?_ _) | (with_reducible refine Below.drew ?_) | (simp; done) | (simp; omega) | omega)))⟩
    · have d2 : (S == S') = false := by simpa using h2
      have HF := Lib.hid (show false = c by symm; rw [Bool.eq_false_iff]; intro h; exact h2 (hc.1 h).2.1)
      obtain ⟨-, a, cap, rfl, -⟩ := hx
      obtain ⟨-, a', cap', rfl, -⟩ := hy
      clear hc h2
      go_enter Tryd.func27, Tryd.ntmps27
      go_wp2
      go_ret
      exact ⟨ret_bool HF.out, (by (repeat' (first | with_reducible exact Below.refl _ _ | (with_reducible refine below_later_of ?_ ?_ _) | (with_reducible refine Below.alloc ?_ ?_ _) | (with_reducible refine Below.setCell ?_ ?_ _) | (with_reducible refine Below.drew ?_) | (simp; done) | (simp; omega) | omega)))⟩
  · have d1 : (L == L') = false := by simpa using h1
    have HF := Lib.hid (show false = c by symm; rw [Bool.eq_false_iff]; intro h; exact h1 (hc.1 h).1)
    obtain ⟨-, a, cap, rfl, -⟩ := hx
    obtain ⟨-, a', cap', rfl, -⟩ := hy
    clear hc h1
    go_enter Tryd.func27, Tryd.ntmps27
    go_wp2
    go_ret
    exact ⟨ret_bool HF.out, (by (repeat' (first | with_reducible exact Below.refl _ _ | (with_reducible refine below_later_of ?_ ?_ _) | (with_reducible refine Below.alloc ?_ ?_ _) | (with_reducible refine Below.setCell ?_ ?_ _) | (with_reducible refine Below.drew ?_) | (simp; done) | (simp; omega) | omega)))⟩
/- The examples. -/
def xa1 : List Nat := [1065353216, 0, 1073741824, 0, 1077936128, 0, 1082130432, 0]
def xa2 : List (Nat × Nat) := [(1065353216, 0), (0, 1065353216)]
def xa3 : List (Nat × Nat) := [(4607182418800017408, 13835058055282163712), (4611686018427387904, 13837309855095848960), (4613937818241073152, 13839561654909534208)]
def xa4 : List Nat := [1065353216, 0, 0, 1073741824]
def xaF : Nat → Nat × Nat := smp (fun k => xa1.getD k 0)
def xaC : Nat → Nat × Nat := fun k => xa2.getD k (0, 0)
def xaG : Nat → Nat × Nat := smp (fun k => xa4.getD k 0)
theorem xa_err : first2 (imgE 1 4 4 xaF).2 (codeE 2 xaC).2 = 0 := by decide +kernel
theorem xa_vals : ∀ i, i < 3 → compB (xB xaF) (yB xaF) (xB xaC) (yB xaC) 3 4 2 i = xa3.getD i (0, 0) := by decide +kernel
theorem xa_imgE : (imgE 1 2 2 xaG).2 = 0 := by decide +kernel
theorem xa_phE : phE 13835058055282163712 4607182418800017408 = 0 := by decide +kernel
theorem xa_ph : phaseP (-2) 1 = 1746 := by decide +kernel
theorem xa_print : printB 1 2 2 (xB xaG) (yB xaG) = [105, 109, 97, 103, 101, 32, 49, 32, 50, 32, 52, 52, 50, 50, 51, 10, 49, 32, 48, 32, 48, 32, 50, 10] := by decide +kernel
theorem xa_corr : (List.range 2).map (fun s => corr 2 (intAt [1, 2]) (intAt [3, 4]) s % PP) = [11, 10] := by decide +kernel
end Go.Proofs.YtakohhlmomgegaaDoor
