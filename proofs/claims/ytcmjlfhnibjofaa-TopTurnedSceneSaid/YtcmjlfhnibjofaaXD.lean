import Derived.Test.YtcmjlfhnibjofaaZQ
import Derived.Test.YtcmjlfhnibjofaaZR
import Derived.TacticsIn
import Derived.BigFrameIn
import Derived.OwnWalkIn
import Derived.TacticsInMore
import Derived.LoopNIn
import Derived.LoopIn
import Derived.Test.YtcmjlfhnibjofaaXA
import Derived.Deep.CutRange
import Derived.Deep.RegionHeld3
import Derived.Lib.ItoaLen
/- Chapter 4: slices.Chunk of phases: its closure yields the lines. -/
namespace Go.Proofs.Ytcmjlfhnibjofaa
set_option linter.unusedVariables false
set_option linter.unusedSimpArgs false
open Go.RowKit
/-- Line number k. -/
def encM (b off S k : Nat) : Array Value := #[.slice (some ⟨b, off + k * S, none⟩) S S]
def ChunkM (p1 p2 b off n cap S : Nat) (W : World) : Prop := W.heap[p1]? = some (.cells #[.slice (some ⟨b, off, none⟩) n cap] 48 (0, 0)) ∧ W.heap[p2]? = some (.cells #[.int .i64 S] 3 (0, 0))
theorem ChunkM.cells {p1 p2 b off n cap S : Nat} {W : World} (h : ChunkM p1 p2 b off n cap S W) : W.cell? ⟨p1, 0, none⟩ = some (.slice (some ⟨b, off, none⟩) n cap) ∧ W.cell? ⟨p2, 0, none⟩ = some (.int .i64 S) :=
  ⟨by rw [cell_of_row W p1 0 _ _ _ h.1]; rfl, by rw [cell_of_row W p2 0 _ _ _ h.2]; rfl⟩
end Go.Proofs.Ytcmjlfhnibjofaa

/- Chapter 4: Print, of a right map. -/
namespace Go.Proofs.Ytcmjlfhnibjofaa
set_option linter.unusedVariables false
set_option linter.unusedSimpArgs false
open Go.RowKit Go Ntt
theorem bAt_same {T e : TypeId} {B b : Nat} {p : Value} {bs : List Value} {W W' : World} (h : Lib.BuilderAtF T e B b p bs W) (hc : CellsSame W W') : Lib.BuilderAtF T e B b p bs W' := by
  obtain ⟨h1, v, h2, ⟨h3, h4⟩, h5⟩ := h
  refine ⟨h1, v, hc _ _ _ _ h2, ⟨h3, ?_⟩, h5⟩
  rcases h4 with h4 | ⟨g, cap, cur, fz, k1, k2, k3, k4⟩
  · exact .inl h4
  · exact .inr ⟨g, cap, cur, fz, k1, k2, hc _ _ _ _ k3, k4⟩
/-- A text is written. -/
theorem wp_worldL {P : Program} {c : Code} {Q : Exit → Act → World → Prop} {a : Act} {w : World} (F : World → Prop) (hf : F w) (h : ∀ W, F W → Code.wp P c Q a W) : Code.wp P c Q a w := h w hf
theorem callsIn_round {l m : Nat} {P : Program} {f : FuncId} {args : Array Value} {w : World} {R : Ending → World → Prop} (h : Calls P f args w R) : CallsIn (Fence.wide.inRound l) m P f args w R := callsIn_wide (n := m).2 h
/-- The body of the first range over a function in a code. -/
def rangeBody : Code → Option Code
  | .seq a b => match rangeBody a with | some c => some c | none => rangeBody b
  | .cond _ a b => match rangeBody a with | some c => some c | none => rangeBody b
  | .block _ c => rangeBody c
  | .loop c => rangeBody c
  | .scope c => rangeBody c
  | .rangeFunc _ _ _ body => some body
  | _ => none
/-- How long texts are. -/
theorem join_bd : ∀ l : List (List UInt8), (Lib.join l [32]).length ≤ Lib.lens l + l.length
  | [] => by simp [Lib.join, Lib.lens]
  | x :: r => by rw [Lib.join_length]; simp; omega
def Fits (n : Int) : Prop := -9223372036854775808 ≤ n ∧ n ≤ 9223372036854775807
theorem lens_app (a b : List (List UInt8)) : Lib.lens (a ++ b) = Lib.lens a + Lib.lens b := by unfold Lib.lens; simp
theorem fits_small {n : Int} (h1 : -1000000 ≤ n) (h2 : n ≤ 1000000) : Fits n := ⟨by omega, by omega⟩
theorem keepT_others {e : TypeId} {b B : Nat} {W W' : World} (h : Lib.OthersKept e (some b) W W') (hb : b < B) (hs : W.heap.size ≤ W'.heap.size) : KeepT e B W W' :=
  ⟨hs, fun k h1 h2 h3 => by
    obtain ⟨o, ho⟩ : ∃ o, W.heap[k]? = some o := ⟨_, Array.getElem?_eq_getElem h2⟩
    rw [ho]
    exact h k o ho (fun e => by cases e; omega) (fun c fz e => h3 c fz (by rw [ho, e]))⟩
theorem cells_new (w : World) (l : List Value) (T : TypeId) (j : Nat) (u : Value) (h : l[j]? = some u) : (w.alloc (.cells l.toArray T)).cell? ((⟨w.heap.size, 0, none⟩ : Addr).add j) = some u := by
  have : (⟨w.heap.size, 0, none⟩ : Addr).add j = ⟨w.heap.size, j, none⟩ := by simp [Addr.add]; omega
  rw [this, World.cell?_alloc_new]
  simpa using h
/-- A phase as a word; the words of a line; the lines. -/
def wordZ (p : Int) : ByteArray := if nvB p then itoaS p else ⟨#[42]⟩
def lineZ (z : Nat → Int) (i0 : Nat) : Nat → List ByteArray
  | 0 => []
  | s + 1 => lineZ z i0 s ++ [wordZ (z (i0 + s))]
theorem lineZ_len (z : Nat → Int) (i0 : Nat) : ∀ s, (lineZ z i0 s).length = s
  | 0 => rfl
  | s + 1 => by rw [lineZ, List.length_append, lineZ_len z i0 s]; rfl
def lineB (z : Nat → Int) (i0 s : Nat) : List UInt8 := Lib.join ((lineZ z i0 s).map (·.data.toList)) [32] ++ [10]
def linesZ (z : Nat → Int) (C : Nat) : Nat → List UInt8
  | 0 => []
  | l + 1 => linesZ z C l ++ lineB z (l * C) C
def headZ (R C : Int) : List UInt8 := [112, 104, 97, 115, 101, 115, 32] ++ Lib.itoa R ++ [32] ++ Lib.itoa C ++ [10]
def printZ (R C : Nat) (zs : List Int) : List UInt8 := headZ R C ++ linesZ (intAt zs) C R
theorem wordZ_size {p : Int} (h : Fits p) : (wordZ p).data.toList.length ≤ 21 := by
  unfold wordZ
  split
  · have := Lib.itoa_length_le p h.1 h.2
    simpa [itoaS] using this
  · decide
theorem lineZ_lens {z : Nat → Int} (h : ∀ k, Fits (z k)) (i0 : Nat) : ∀ s, Lib.lens ((lineZ z i0 s).map (·.data.toList)) ≤ 21 * s
  | 0 => by simp [lineZ, Lib.lens]
  | s + 1 => by
    have h1 := lineZ_lens h i0 s
    have h2 := wordZ_size (h (i0 + s))
    rw [lineZ, List.map_append, lens_app]
    simp only [List.map_cons, List.map_nil, Lib.lens, List.sum_cons, List.sum_nil] at h1 ⊢
    omega
theorem lineJ_len {z : Nat → Int} (h : ∀ k, Fits (z k)) (i0 s : Nat) : (Lib.join ((lineZ z i0 s).map (·.data.toList)) [32]).length ≤ 22 * s := by
  have h1 := join_bd ((lineZ z i0 s).map (·.data.toList))
  have h2 := lineZ_lens h i0 s
  rw [List.length_map, lineZ_len] at h1
  omega
theorem linesZ_len {z : Nat → Int} (h : ∀ k, Fits (z k)) {C : Nat} (hC : C ≤ 64) : ∀ k, (linesZ z C k).length ≤ k * 3000
  | 0 => by simp [linesZ]
  | k + 1 => by
    have h1 := linesZ_len h hC k
    have h2 := lineJ_len h (k * C) C
    rw [linesZ, List.length_append]
    unfold lineB
    rw [List.length_append, List.length_singleton]
    omega
theorem itoaS_size (n : Int) (h0 : -9223372036854775808 ≤ n) (h1 : n ≤ 9223372036854775807) : (itoaS n).size ≤ 21 := by
  have := Lib.itoa_length_le n h0 h1
  simpa [itoaS, ByteArray.size] using this
theorem headZ_len {R C : Int} (hR : 0 ≤ R ∧ R ≤ 64) (hC : 0 ≤ C ∧ C ≤ 64) : (headZ R C).length ≤ 60 := by
  have h1 := Lib.itoa_length_le R (by omega) (by omega)
  have h2 := Lib.itoa_length_le C (by omega) (by omega)
  unfold headZ
  simp only [List.length_append, List.length_cons, List.length_nil]
  omega
theorem badd4 (a b : Array UInt8) : (⟨a⟩ : ByteArray) ++ ⟨b⟩ = ⟨a ++ b⟩ := by
  apply ByteArray.ext
  simp
theorem MapOk.fits {R C : Nat} {zs : List Int} (h : MapOk R C zs) (k : Nat) : Fits (intAt zs k) := by
  have := h.bd k
  exact ⟨by omega, by omega⟩
def LsSt (W : World) (l : List ByteArray) (u : Value) (wr : World) : Prop := wr.ownsRow W.heap.size 9 1 u l.length (wordsC l) ∧ Below W.heap.size W wr
end Go.Proofs.Ytcmjlfhnibjofaa

/- Chapter 4: Print, of a right map. -/
namespace Go.Proofs.Ytcmjlfhnibjofaa
set_option linter.unusedVariables false
set_option linter.unusedSimpArgs false
open Go.RowKit Go Ntt
theorem wp_worldP4 {P : Program} {c : Code} {Q : Exit → Act → World → Prop} {a : Act} {w : World} (F : World → Prop) (hf : F w) (h : ∀ W, F W → Code.wp P c Q a W) : Code.wp P c Q a w := h w hf
theorem any_worldZ {G : World → Prop} {w : World} (F : World → Prop) (hf : F w) (h : ∀ W, F W → G W) : G w := h w hf
end Go.Proofs.Ytcmjlfhnibjofaa
