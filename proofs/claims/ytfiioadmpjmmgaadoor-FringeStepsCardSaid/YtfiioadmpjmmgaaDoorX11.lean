/- Chapter 4: Print, of a right map. -/
import Derived.Test.YtfiioadmpjmmgaaDoorX10
import Derived.Test.YtfiioadmpjmmgaaDoorX3
import Derived.Deep.CutRange
import Derived.Deep.RegionHeld3
import Derived.Lib.ItoaLen
namespace Go.Proofs.YtfiioadmpjmmgaaDoor
set_option linter.unusedVariables false
set_option linter.unusedSimpArgs false
open Go.RowKit Go Ntt
def IsB (b : Nat) (l : List UInt8) (W : World) : Prop := Lib.IsBuilderF 124 5 b b (Lib.byteCells l) W
theorem bAt_same {T e : TypeId} {B b : Nat} {p : Value} {bs : List Value} {W W' : World} (h : Lib.BuilderAtF T e B b p bs W) (hc : CellsSame W W') : Lib.BuilderAtF T e B b p bs W' := by
  obtain ⟨h1, v, h2, ⟨h3, h4⟩, h5⟩ := h
  refine ⟨h1, v, hc _ _ _ _ h2, ⟨h3, ?_⟩, h5⟩
  rcases h4 with h4 | ⟨g, cap, cur, fz, k1, k2, k3, k4⟩
  · exact .inl h4
  · exact .inr ⟨g, cap, cur, fz, k1, k2, hc _ _ _ _ k3, k4⟩
theorem IsB.same {b : Nat} {l : List UInt8} {W W' : World} (h : IsB b l W) (hc : CellsSame W W') : IsB b l W' := h.elim (fun h => .inl (bAt_same h hc)) (fun h => .inr (bAt_same h hc))
theorem IsB.fresh {W : World} {b : Nat} (hb : W.heap.size = b) : IsB b [] (W.alloc (.cells #[.pointer none, .slice none 0 0] 124)) := by
  subst hb
  exact Lib.IsBuilderF.of (Lib.fresh_isBuilder _ _ W)
theorem IsB.lt {b : Nat} {l : List UInt8} {W : World} (h : IsB b l W) : b < W.heap.size := h.elim (fun h => h.lt) (fun h => h.lt)
/-- A text is written. -/
theorem wp_worldL {P : Program} {c : Code} {Q : Exit → Act → World → Prop} {a : Act} {w : World} (F : World → Prop) (hf : F w) (h : ∀ W, F W → Code.wp P c Q a W) : Code.wp P c Q a w := h w hf
theorem write_b (b : Nat) (l t : List UInt8) (w : World) (h : IsB b l w) (hl : l.length + t.length ≤ 140737488355328) :
    Calls Tryd.prog 70 #[.pointer (some ⟨b, 0, none⟩), .string ⟨t.toArray⟩] w fun e w' => (∃ v, e = .returned v) ∧ IsB b (l ++ t) w' ∧ Below b w w' ∧ Lib.OthersKept 5 (some b) w w' := by
  refine (writeString_k b b (Lib.byteCells l) ⟨t.toArray⟩ w h ?_ (Nat.le_of_lt h.lt)).mono ?_
  · rw [Lib.byteCells_length]
    simpa [ByteArray.size] using hl
  · rintro e w' ⟨rfl, h1, h2, h3⟩
    refine ⟨⟨_, rfl⟩, .inr ?_, h2, h3⟩
    rw [Lib.byteCells_append, ← Lib.strCells_toArray t]
    exact h1
theorem callsIn_round {l m : Nat} {P : Program} {f : FuncId} {args : Array Value} {w : World} {R : Ending → World → Prop} (h : Calls P f args w R) : CallsIn (Fence.wide.inRound l) m P f args w R := callsIn_wide (n := m).2 h
/-- The body of the first range over a function in a code. -/
def rangeBody : Code → Option Code
  | .seq a b => match rangeBody a with | some c => some c | none => rangeBody b
  | .cond _ a b => match rangeBody a with | some c => some c | none => rangeBody b
  | .block _ c => rangeBody c
  | .loop c => rangeBody c
  | .scope c => rangeBody c
  | .rangeFunc _ _ _ body => some body
  | _ => none
/-- How long texts are. -/
theorem join_bd : ∀ l : List (List UInt8), (Lib.join l [32]).length ≤ Lib.lens l + l.length
  | [] => by simp [Lib.join, Lib.lens]
  | x :: r => by rw [Lib.join_length]; simp; omega
def Fits (n : Int) : Prop := -9223372036854775808 ≤ n ∧ n ≤ 9223372036854775807
theorem lens_app (a b : List (List UInt8)) : Lib.lens (a ++ b) = Lib.lens a + Lib.lens b := by unfold Lib.lens; simp
theorem fits_small {n : Int} (h1 : -1000000 ≤ n) (h2 : n ≤ 1000000) : Fits n := ⟨by omega, by omega⟩
theorem keepT_others {e : TypeId} {b B : Nat} {W W' : World} (h : Lib.OthersKept e (some b) W W') (hb : b < B) (hs : W.heap.size ≤ W'.heap.size) : KeepT e B W W' :=
  ⟨hs, fun k h1 h2 h3 => by
    obtain ⟨o, ho⟩ : ∃ o, W.heap[k]? = some o := ⟨_, Array.getElem?_eq_getElem h2⟩
    rw [ho]
    exact h k o ho (fun e => by cases e; omega) (fun c fz e => h3 c fz (by rw [ho, e]))⟩
theorem cells_new (w : World) (l : List Value) (T : TypeId) (j : Nat) (u : Value) (h : l[j]? = some u) : (w.alloc (.cells l.toArray T)).cell? ((⟨w.heap.size, 0, none⟩ : Addr).add j) = some u := by
  have : (⟨w.heap.size, 0, none⟩ : Addr).add j = ⟨w.heap.size, j, none⟩ := by simp [Addr.add]; omega
  rw [this, World.cell?_alloc_new]
  simpa using h
/-- A phase as a word; the words of a line; the lines. -/
def wordZ (p : Int) : ByteArray := if nvB p then itoaS p else ⟨#[42]⟩
def lineZ (z : Nat → Int) (i0 : Nat) : Nat → List ByteArray
  | 0 => []
  | s + 1 => lineZ z i0 s ++ [wordZ (z (i0 + s))]
theorem lineZ_len (z : Nat → Int) (i0 : Nat) : ∀ s, (lineZ z i0 s).length = s
  | 0 => rfl
  | s + 1 => by rw [lineZ, List.length_append, lineZ_len z i0 s]; rfl
def lineB (z : Nat → Int) (i0 s : Nat) : List UInt8 := Lib.join ((lineZ z i0 s).map (·.data.toList)) [32] ++ [10]
def linesZ (z : Nat → Int) (C : Nat) : Nat → List UInt8
  | 0 => []
  | l + 1 => linesZ z C l ++ lineB z (l * C) C
def headZ (R C : Int) : List UInt8 := [112, 104, 97, 115, 101, 115, 32] ++ Lib.itoa R ++ [32] ++ Lib.itoa C ++ [10]
def printZ (R C : Nat) (zs : List Int) : List UInt8 := headZ R C ++ linesZ (intAt zs) C R
theorem wordZ_size {p : Int} (h : Fits p) : (wordZ p).data.toList.length ≤ 21 := by
  unfold wordZ
  split
  · have := Lib.itoa_length_le p h.1 h.2
    simpa [itoaS] using this
  · decide
theorem lineZ_lens {z : Nat → Int} (h : ∀ k, Fits (z k)) (i0 : Nat) : ∀ s, Lib.lens ((lineZ z i0 s).map (·.data.toList)) ≤ 21 * s
  | 0 => by simp [lineZ, Lib.lens]
  | s + 1 => by
    have h1 := lineZ_lens h i0 s
    have h2 := wordZ_size (h (i0 + s))
    rw [lineZ, List.map_append, lens_app]
    simp only [List.map_cons, List.map_nil, Lib.lens, List.sum_cons, List.sum_nil] at h1 ⊢
    omega
theorem lineJ_len {z : Nat → Int} (h : ∀ k, Fits (z k)) (i0 s : Nat) : (Lib.join ((lineZ z i0 s).map (·.data.toList)) [32]).length ≤ 22 * s := by
  have h1 := join_bd ((lineZ z i0 s).map (·.data.toList))
  have h2 := lineZ_lens h i0 s
  rw [List.length_map, lineZ_len] at h1
  omega
theorem linesZ_len {z : Nat → Int} (h : ∀ k, Fits (z k)) {C : Nat} (hC : C ≤ 64) : ∀ k, (linesZ z C k).length ≤ k * 3000
  | 0 => by simp [linesZ]
  | k + 1 => by
    have h1 := linesZ_len h hC k
    have h2 := lineJ_len h (k * C) C
    rw [linesZ, List.length_append]
    unfold lineB
    rw [List.length_append, List.length_singleton]
    omega
theorem itoaS_size (n : Int) (h0 : -9223372036854775808 ≤ n) (h1 : n ≤ 9223372036854775807) : (itoaS n).size ≤ 21 := by
  have := Lib.itoa_length_le n h0 h1
  simpa [itoaS, ByteArray.size] using this
theorem headZ_len {R C : Int} (hR : 0 ≤ R ∧ R ≤ 64) (hC : 0 ≤ C ∧ C ≤ 64) : (headZ R C).length ≤ 60 := by
  have h1 := Lib.itoa_length_le R (by omega) (by omega)
  have h2 := Lib.itoa_length_le C (by omega) (by omega)
  unfold headZ
  simp only [List.length_append, List.length_cons, List.length_nil]
  omega
theorem badd4 (a b : Array UInt8) : (⟨a⟩ : ByteArray) ++ ⟨b⟩ = ⟨a ++ b⟩ := by
  apply ByteArray.ext
  simp
theorem MapOk.fits {R C : Nat} {zs : List Int} (h : MapOk R C zs) (k : Nat) : Fits (intAt zs k) := by
  have := h.bd k
  exact ⟨by omega, by omega⟩
/-- What is known at the loop of Print. -/
structure PStM (w WL : World) (Bb b off n cap S p1 p2 : Nat) (l : List UInt8) (W : World) : Prop where
  bel : Below w.heap.size w W
  sz : WL.heap.size ≤ W.heap.size
  bld : IsB Bb l W
  chk : ChunkM p1 p2 b off n cap S W
theorem PStM.keep {w WL W W' : World} {Bb b off n cap S p1 p2 : Nat} {l : List UInt8} (h : PStM w WL Bb b off n cap S p1 p2 l W) (hw : w.heap.size ≤ WL.heap.size) (h1 : p1 < WL.heap.size) (h2 : p2 < WL.heap.size) (hb : Below WL.heap.size W W') (hc : CellsSame W W') : PStM w WL Bb b off n cap S p1 p2 l W' :=
  ⟨h.bel.trans (hb.mono hw), Nat.le_trans h.sz hb.size, h.bld.same hc, hc _ _ _ _ h.chk.1, hc _ _ _ _ h.chk.2⟩
def LsSt (W : World) (l : List ByteArray) (u : Value) (wr : World) : Prop := wr.ownsRow W.heap.size 9 1 u l.length (wordsC l) ∧ Below W.heap.size W wr
set_option maxRecDepth 20000 in
set_option maxHeartbeats 4000000 in
theorem printBodyM (body : Code) (hbody : Tryd.f41.body.bind rangeBody = some body) (n C cap b off Bb p1 p2 k m l : Nat) (z : Nat → Int) (w WL W : World) (I : World → Prop) (Ix : Code → World → Prop) (l0 : List UInt8)
    (hkS : k * C + C ≤ n) (hn : n ≤ 100000) (s1 : 1 ≤ C) (s2 : C ≤ 64) (hbw : b < w.heap.size) (hwb : w.heap.size < Bb) (hBb : Bb < WL.heap.size) (hwl : w.heap.size ≤ WL.heap.size) (hp1 : p1 < WL.heap.size) (hp2 : p2 < WL.heap.size) (hpb1 : p1 ≠ Bb) (hpb2 : p2 ≠ Bb) (hs : ∀ j, j < n → w.cell? ⟨b, off + j, none⟩ = some (.int .i64 (z j))) (hfit : ∀ j, Fits (z j)) (ht : Tab w)
    (hl0 : l0.length ≤ 1000000) (hpl : PStM w WL Bb b off n cap C p1 p2 l0 W)
    (hgo : ∀ W', PStM w WL Bb b off n cap C p1 p2 (l0 ++ lineB z (k * C) C) W' → I W')
    (u0 u1 u2 u3 u4 u7 u8 u9 u10 u11 u12 u13 u14 u15 u16 u17 u18 u19 u20 u21 u22 u23 u24 u25 u26 u27 u28 u29 u30 u31 u32 u33 u34 u35 u36 u37 u38 u39 u40 u41 u42 u43 u44 u45 u46 u47 u48 u49 u50 u51 u52 : Value) :
    body.wpIn (Fence.wide.inRound l) (m + 2) Tryd.prog (boundPostT 5 WL.heap.size I Ix W) { tmps := #[u0, u1, u2, u3, u4, .pointer (some ⟨Bb, 0, none⟩), .slice (some ⟨b, off + k * C, none⟩) C C, u7, u8, u9, u10, u11, u12, u13, u14, u15, u16, u17, u18, u19, u20, u21, u22, u23, u24, u25, u26, u27, u28, u29, u30, u31, u32, u33, u34, u35, u36, u37, u38, u39, u40, u41, u42, u43, u44, u45, u46, u47, u48, u49, u50, u51, u52], defers := [] } W := by
  unfold Tryd.f41 at hbody
  simp only [Option.bind_some, rangeBody, Option.some.injEq] at hbody
  subst hbody
  obtain ⟨i0, hi0, hz0, hz1, hz2⟩ := info_parts infoS
  have HS := Lib.hid hs
  have HF := Lib.hid hfit
  have HT := Lib.hid (ht.below hpl.bel)
  have HPL := Lib.hid hpl
  have HGO := Lib.hid hgo
  have hwW : w.heap.size ≤ W.heap.size := hpl.bel.size
  have hsW := hpl.sz
  have hbelW := hpl.bel
  have HBW := Lib.hid hbelW
  have HKS := Lib.hid hkS
  clear hs hfit ht hpl hgo hbelW hkS
  gi_wp2
  gi_loopw [7, 35] (fun v i wr => ∃ (s : Nat) (u : Value), s ≤ C ∧ i = .int .i64 s ∧ u = v ∧ LsSt W (lineZ z (k * C) s) u wr) (fun _ i _ => C - (intOf i).toNat)
  case atStart => exact ⟨0, _, Nat.zero_le _, rfl, rfl, World.ownsRow_nil _ _ _ _, Below.refl _ _⟩
  case round =>
    obtain ⟨s, u, hs, rfl, rfl, hst, hbel⟩ := hrel
    have HBEL := Lib.hid hbel
    have hbs := hbel.size
    by_cases hlt : s < C
    · have hds : decide ((s : Int) < (C : Int)) = true := by simp; omega
      have hk0 : (0 : Int) ≤ (s : Int) := by omega
      have hk1 : (s : Int) < (C : Int) := by omega
      have ck := ((HBW.out.trans (hbel.mono hwW)).cell (p := ⟨b, off + (k * C + s), none⟩) hbw).trans (HS.out (k * C + s) (by have := HKS.out; omega))
      rw [← Nat.add_assoc] at ck
      obtain ⟨ua, uc, rfl⟩ := own_slice hst
      have HOW := Lib.hid hst
      have hll : (lineZ z (k * C) s).length ≤ 128 := by rw [lineZ_len]; omega
      have HNX := Lib.hid (show lineZ z (k * C) (s + 1) = lineZ z (k * C) s ++ [wordZ (z (k * C + s))] from rfl)
      have hfp := HF.out (k * C + s)
      obtain ⟨p, hp⟩ : ∃ p, z (k * C + s) = p := ⟨_, rfl⟩
      rw [hp] at ck HNX hfp
      obtain ⟨ls, hls⟩ : ∃ ls, lineZ z (k * C) s = ls := ⟨_, rfl⟩
      rw [hls] at HOW HNX hll
      simp only [hls]
      have hbr : b < wr.heap.size := by omega
      by_cases hv : p = 1000000000000
      · have hpb : (p != 1000000000000) = false := by simpa using hv
        have HN2 := Lib.hid (show wordZ p = ⟨#[42]⟩ by unfold wordZ nvB; rw [if_neg (by simpa using hv)])
        clear hst hbel hp hls hv hfp
        gi_wp2_with (first | (gi_at_builtin; refine wpListIn_append_own _ rfl _ _ 133 rfl W.heap.size 9 i0 (.string ⟨#[]⟩) 1 16 Tryd.underlying133 hi0 hz0 hz1 hz2 rfl (by decide) _ _ _ rfl (HOW.out.alloc _) ⟨wr.heap.size, 0, none⟩ 1 1 [.string ⟨#[42]⟩] (by first | rfl | (simp; done) | (simp; rfl)) rfl ?c1 ?c2 ?c3 ?c4 ?c5 ?_))
        case c1 =>
          intro j u hj
          rcases j with _ | j
          · simp at hj; subst hj; (first | (simp [Addr.add, go_sem]; done) | simp [Addr.add, go_sem, ↓IntWalk.iteOmega])
          · simp at hj
        case c2 => intro x hx; simp at hx; subst hx; rfl
        case c3 => unfold maxLen; omega
        case c4 => omega
        case c5 => simp; omega
        intro v' w2 hown' hgrow _
        obtain ⟨g', cc', rfl⟩ := row_slice hown' (by omega)
        have HN := Lib.hid (show LsSt W (lineZ z (k * C) (s + 1)) (.slice (some ⟨g', 0, none⟩) (ls.length + 1) cc') w2 from by
          rw [HNX.out, HN2.out]
          refine ⟨?_, HBEL.out.trans (((Below.refl _ _).alloc (by omega) _).grown hgrow (by simp; omega) (fun g hg => (HOW.out.lt g hg).1))⟩
          rw [words_snoc, List.length_append]
          exact hown')
        clear hown' hgrow
        gi_wp2
        go_roundw
        case rel => exact ⟨s + 1, _, by omega, by go_num, rfl, HN.out⟩
        case measure => simp [intOf]; omega
      · have hpb : (p != 1000000000000) = true := by simpa using hv
        have HN2 := Lib.hid (show wordZ p = itoaS p by unfold wordZ nvB; rw [if_pos (by simpa using hv)])
        have HIT := Lib.hid (show Calls Tryd.prog 71 #[.int .i64 p] wr fun e w' => e = .returned (.string (itoaS p)) ∧ Below wr.heap.size wr w' from itoa_any p hfp.1 hfp.2 wr (HT.out.below hbel))
        clear hst hbel hp hls hv hfp
        gi_wp2_with (first | (refine ⟨trivial, ?_⟩; gi_at_call 71; refine (callsIn_round HIT.out).mono ?_; rintro e w1 ⟨rfl, hb⟩; have hw1 := hb.size; have HB1 := Lib.hid hb; have HO1 := Lib.hid (own_below HOW.out hb); clear hb) | (gi_at_builtin; refine wpListIn_append_own _ rfl _ _ 133 rfl W.heap.size 9 i0 (.string ⟨#[]⟩) 1 16 Tryd.underlying133 hi0 hz0 hz1 hz2 rfl (by decide) _ _ _ rfl (HO1.out.alloc _) ⟨w1.heap.size, 0, none⟩ 1 1 [.string (itoaS p)] (by first | rfl | (simp; done) | (simp; rfl)) rfl ?c1 ?c2 ?c3 ?c4 ?c5 ?_))
        case c1 =>
          intro j u hj
          rcases j with _ | j
          · simp at hj; subst hj; (first | (simp [Addr.add, go_sem]; done) | simp [Addr.add, go_sem, ↓IntWalk.iteOmega])
          · simp at hj
        case c2 => intro x hx; simp at hx; subst hx; rfl
        case c3 => unfold maxLen; omega
        case c4 => omega
        case c5 => simp; omega
        intro v' w2 hown' hgrow _
        obtain ⟨g', cc', rfl⟩ := row_slice hown' (by omega)
        have HN := Lib.hid (show LsSt W (lineZ z (k * C) (s + 1)) (.slice (some ⟨g', 0, none⟩) (ls.length + 1) cc') w2 from by
          rw [HNX.out, HN2.out]
          refine ⟨?_, HBEL.out.trans ((((HB1.out.mono hbs)).alloc (by omega) _).grown hgrow (by simp; omega) (fun g hg => (HOW.out.lt g hg).1))⟩
          rw [words_snoc, List.length_append]
          exact hown')
        clear hown' hgrow
        gi_wp2
        go_roundw
        case rel => exact ⟨s + 1, _, by omega, by go_num, rfl, HN.out⟩
        case measure => simp [intOf]; omega
    · obtain rfl : s = C := by omega
      have hds : decide ((s : Int) < (s : Int)) = false := by simp
      have hlen : (lineZ z (k * s) s).length = s := lineZ_len z (k * s) s
      have hjl := lineJ_len HF.out (k * s) s
      obtain ⟨ws, hws⟩ : ∃ ws, lineZ z (k * s) s = ws := ⟨_, rfl⟩
      have HWS0 := Lib.hid hws
      rw [hws] at hst hlen hjl
      obtain ⟨g, uc, rfl, hg1, hg2⟩ := World.ownsRow.form hst (by omega)
      obtain ⟨jb, hjb⟩ : ∃ jb : ByteArray, (⟨(Lib.join (ws.map (·.data.toList)) [32]).toArray⟩ : ByteArray) = jb := ⟨_, rfl⟩
      have hjs : jb.size ≤ 2000 := by
        rw [← hjb]
        show (Lib.join (ws.map (·.data.toList)) [32]).toArray.size ≤ 2000
        simp only [List.size_toArray]
        omega
      have HJO := Lib.hid (show Calls Tryd.prog 73 #[.slice (some ⟨g, 0, none⟩) ws.length uc, .string ⟨#[32]⟩] wr fun e w' => e = .returned (.string jb) ∧ Below wr.heap.size wr w' from by
        rw [← hjb]
        refine Tryd.strings_Join g 0 uc ws ⟨#[32]⟩ wr (fun j x hx => ?_) hg2 (by omega) (own_cap hst) (Nat.le_trans hjl (by omega))
        rw [Nat.zero_add, hst.cellAt j (by rw [Nat.mul_one]; exact (List.getElem?_eq_some_iff.1 hx).1)]
        unfold wordsC
        rw [List.getElem?_map, hx]
        rfl)
      have y1 : ¬ 9223372036854775807 < jb.size + 1 := by omega
      obtain ⟨t0, ht0⟩ : ∃ t0, lineB z (k * s) s = t0 := ⟨_, rfl⟩
      have HBD := Lib.hid (HPL.out.bld.same (CellsSame.below hbel))
      have htl : t0.length ≤ 2000 := by
        rw [← ht0]
        unfold lineB
        rw [hws, List.length_append, List.length_singleton]
        omega
      have HWS := Lib.hid (show ∀ W', IsB Bb l0 W' → Calls Tryd.prog 70 #[.pointer (some ⟨Bb, 0, none⟩), .string (jb ++ ⟨#[10]⟩)] W' fun e w' => (∃ v, e = .returned v) ∧ IsB Bb (l0 ++ t0) w' ∧ Below Bb W' w' ∧ Lib.OthersKept 5 (some Bb) W' w' from fun W' h => by
        have := write_b Bb l0 t0 W' h (by omega)
        have e : (jb ++ ⟨#[10]⟩ : ByteArray) = ⟨t0.toArray⟩ := by
          rw [← hjb, ← ht0]
          unfold lineB
          rw [hws, badd4]
          simp
        rw [e]
        exact this)
      rw [ht0] at HGO
      simp only [hlen] at HJO ⊢
      clear hst hbel hjl ht0 hjb hws htl hlen
      gi_wp2_with (first | (refine ⟨trivial, ?_⟩; gi_at_call 73; with_reducible refine (callsIn_round HJO.out).mono ?_; rintro e w9 ⟨rfl, hb⟩; have HB9 := Lib.hid hb; have HI9 := Lib.hid (HBD.out.same (CellsSame.below hb)); clear hb) | (refine ⟨trivial, ?_⟩; gi_at_call 70; with_reducible refine (callsIn_round (HWS.out _ HI9.out)).mono ?_; rintro e w10 ⟨⟨v10, rfl⟩, h1, h2, h3⟩; have HW10 := Lib.hid (And.intro h1 (And.intro h2 h3)); clear h1 h2 h3))
      obtain ⟨h1, h2, h3⟩ := HW10.out
      have hs9 := HB9.out.size
      have hs10 := h2.size
      have HKT := Lib.hid (show KeepT 5 WL.heap.size W w10 from (KeepT.below (HBEL.out.trans (HB9.out.mono hbs))).trans (keepT_others h3 hBb hs10))
      refine ⟨HKT.out, HGO.out _ ⟨?_, by omega, h1, ?_⟩⟩
      · exact HBW.out.trans (((HBEL.out.trans (HB9.out.mono hbs)).mono hwW).trans (h2.mono (by omega)))
      · obtain ⟨c1, c2⟩ := HPL.out.chk
        exact ⟨h3 _ _ (((HBEL.out.trans (HB9.out.mono hbs)).block _ (by omega)).trans c1) (by simpa using hpb1) (by intro c fz e; cases e), h3 _ _ (((HBEL.out.trans (HB9.out.mono hbs)).block _ (by omega)).trans c2) (by simpa using hpb2) (by intro c fz e; cases e)⟩
end Go.Proofs.YtfiioadmpjmmgaaDoor
