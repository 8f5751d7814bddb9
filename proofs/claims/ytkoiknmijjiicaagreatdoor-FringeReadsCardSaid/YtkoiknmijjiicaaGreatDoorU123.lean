/- Chapter 1: the reference's numbers. -/
import Derived.Test.YtkoiknmijjiicaaGreatDoorU119
import Derived.OwnWalk
namespace Go.Proofs.YtkoiknmijjiicaaGreatDoor
set_option linter.unusedVariables false
set_option linter.unusedSimpArgs false
open Go.RowKit Go
/-- The number of a word of at most 7 digits. -/
def wordN (B : ByteArray) : Option Int := numF (byteAt B) B.size 7
/-- The numbers of the first words. -/
def numsP (ws : Nat → ByteArray) : Nat → Option (List Int)
  | 0 => some []
  | k + 1 => match numsP ws k with
    | none => none
    | some l => match wordN (ws k) with
      | none => none
      | some v => some (l ++ [v])
theorem numsP_none (ws : Nat → ByteArray) (k : Nat) (h : numsP ws k = none) : ∀ m, numsP ws (k + m) = none
  | 0 => h
  | m + 1 => by rw [← Nat.add_assoc, numsP, numsP_none ws k h m]
def intC (l : List Int) : List Value := l.map (.int .i64)
theorem infoInt : (Tryz.prog.info? 3).map (fun i => (i.zero, i.size, i.bytes)) = some (some (.int .i64 0), 1, 8) := by kernel_rfl
/-- A row of numbers of one's own. -/
def IntR (O : Nat) (w : World) (l : List Int) (v : Value) (wr : World) : Prop := wr.ownsRow O 3 1 v l.length (intC l) ∧ Below O w wr
theorem cells_int1 (w : World) (x : Value) (T : TypeId) (j : Nat) (u : Value) (h : [x][j]? = some u) : (w.alloc (.cells #[x] T)).cell? ((⟨w.heap.size, 0, none⟩ : Addr).add j) = some u := by
  have : (⟨w.heap.size, 0, none⟩ : Addr).add j = ⟨w.heap.size, j, none⟩ := by simp [Addr.add]; omega
  rw [this, World.cell?_alloc_new]
  simpa using h
theorem intR_put {O : Nat} {w wr w1 : World} {l : List Int} {v v' : Value} {x : Int} {o : Obj} (h : IntR O w l v wr) (hB : O ≤ wr.heap.size) {m : Nat} (hm : l.length = m) (ho : w1.ownsRow O 3 1 v' (m + 1) (intC l ++ [.int .i64 x])) (hg : (wr.alloc o).grownBy w1 v.ownBlock) : IntR O w (l ++ [x]) v' w1 := by
  subst hm
  refine ⟨?_, h.2.trans ((((Below.refl O wr).alloc hB o)).grown hg (by simp; omega) (fun g hg => (h.1.lt g hg).1))⟩
  rw [show intC (l ++ [x]) = intC l ++ [.int .i64 x] by unfold intC; rw [List.map_append]; rfl, List.length_append]
  exact ho
theorem intR_slice {O : Nat} {w wr : World} {l : List Int} {v : Value} (h : IntR O w l v wr) : ∃ a c, v = .slice a l.length c := by
  obtain ⟨-, ⟨rfl, h1⟩ | ⟨g, cap, cur, rfl, h2, h3, -⟩⟩ := h.1
  · exact ⟨none, 0, by rw [h1]⟩
  · exact ⟨_, cap, rfl⟩
/-- What numbers answers. -/
def NumP (w : World) (o : Option (List Int)) (e : Ending) (w' : World) : Prop := match o with
  | none => e = .returned (.tuple #[.slice none 0 0, .bool false])
  | some l => ∃ v, e = .returned (.tuple #[v, .bool true]) ∧ IntR w.heap.size w l v w'
end Go.Proofs.YtkoiknmijjiicaaGreatDoor
