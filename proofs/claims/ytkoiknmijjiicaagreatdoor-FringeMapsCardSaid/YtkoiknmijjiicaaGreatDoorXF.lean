import Derived.Test.YtkoiknmijjiicaaGreatDoorXB
import Derived.Test.YtkoiknmijjiicaaGreatDoorXE
import Derived.Test.YtkoiknmijjiicaaGreatDoorXA
import Derived.Deep.CutRange
import Derived.Deep.RegionHeld3
import Derived.Test.YtkoiknmijjiicaaGreatDoorX20
import Derived.Test.YtkoiknmijjiicaaGreatDoorX5
/- Chapter 4: Masked. -/
namespace Go.Proofs.YtkoiknmijjiicaaGreatDoor
set_option linter.unusedVariables false
set_option linter.unusedSimpArgs false
open Go.RowKit Ntt
/-- The error of Masked. -/
def maskE (R C : Int) (zs : List Int) (R' C' : Int) (ds : List Nat) (m : Int) : Int :=
  if first2 (mapE R C zs).2 (fmE R' C' ds).2 = 0 then (if R = R' ∧ C = C' then (if inE (-100000) 100000 m then 0 else 2) else 13) else first2 (mapE R C zs).2 (fmE R' C' ds).2
def maskV (zs : List Int) (ds : List Nat) (m : Int) (k : Nat) : Int := if intB (flAt ds k) < m then 1000000000000 else intAt zs k
def maskL (zs : List Int) (ds : List Nat) (m : Int) : List Int := (List.range zs.length).map (maskV zs ds m)
theorem maskE_zero {R C : Int} {zs : List Int} {R' C' : Int} {ds : List Nat} {m : Int} (h : maskE R C zs R' C' ds m = 0) : (mapE R C zs).2 = 0 ∧ (fmE R' C' ds).2 = 0 ∧ R = R' ∧ C = C' ∧ inE (-100000) 100000 m = true := by
  unfold maskE at h
  split at h
  · rename_i h1
    obtain ⟨h2, h3⟩ := first2_z h1
    split at h
    · rename_i h4
      split at h
      · rename_i h5
        exact ⟨h2, h3, h4.1, h4.2, h5⟩
      · exact absurd h (by decide)
    · exact absurd h (by decide)
  · exact absurd h ‹_›
theorem fmE_zero {R C : Int} {ds : List Nat} (h : (fmE R C ds).2 = 0) : sizeE R C ds.length = 0 ∧ ∀ k, k < ds.length → fc4 (flAt ds k) = 0 := by
  unfold fmE at h
  split at h
  · rename_i h1
    exact ⟨h1, firstE_zero h⟩
  · exact absurd h ‹_›
theorem conv_fc {b : Nat} (h : fc4 b = 0) (w : World) : (convert 72 3 (.float .f32 b)).run Tryz.prog w = .ok (.int .i64 (intB b)) w := by
  obtain ⟨h1, h2, h3⟩ := fc4_zero h
  refine run_convert_float_int (P := Tryz.prog) w 72 3 .f32 .i64 b _ (by kernel_rfl) Tryz.underlying3 ?_
  have : (FloatKind.f32.decode b).toInt .zero = some (intB b) := fnum_toInt h1
  unfold floatToIntVal
  rw [this]
  dsimp only
  rw [if_pos]
  show (-9223372036854775808 : Int) ≤ _ ∧ _ ≤ (9223372036854775807 : Int)
  omega
theorem ownIV_of {W : World} {B g n c : Nat} {f : Nat → Int} (h : OwnF W g n f) (hB : B ≤ g) (hn : n ≤ 1000000000) : OwnIV B W (.slice (some ⟨g, 0, none⟩) n c) ((List.range n).map f) := by
  have hl : ((List.range n).map f).length = n := by simp
  refine ⟨by omega, some ⟨g, 0, none⟩, c, by rw [hl], fun _ => ⟨g, 0, rfl, hB, h.1.1, fun k hk => ?_⟩⟩
  rw [hl] at hk
  rw [Nat.zero_add, h.1.2 k hk]
  unfold intAt
  simp [hk]
/-- A map that is returned without an error. -/
def MaskPost (R C : Int) (n : Nat) (L : List Int) (w : World) (e : Ending) (w' : World) : Prop :=
  ∃ a c, e = .returned (.tuple #[.agg #[.int .i64 R, .int .i64 C, .slice a n c], .int .i64 0]) ∧ OwnIV w.heap.size w' (.slice a n c) L ∧ Below w.heap.size w w'
end Go.Proofs.YtkoiknmijjiicaaGreatDoor

/- Chapter 4: the reference's Masked. -/
namespace Go.Proofs.YtkoiknmijjiicaaGreatDoor
set_option linter.unusedVariables false
set_option linter.unusedSimpArgs false
open Go.RowKit Ntt
end Go.Proofs.YtkoiknmijjiicaaGreatDoor

/- Chapter 4: the law FringeMasks returns true. -/
namespace Go.Proofs.YtkoiknmijjiicaaGreatDoor
set_option linter.unusedVariables false
set_option linter.unusedSimpArgs false
open Go.RowKit Ntt
/-- A float map as an argument. -/
def FlX (w : World) (v : Value) (ds : List Nat) : Prop :=
  ∃ a cap, v = .slice a ds.length cap ∧ (0 < ds.length → ∃ b off, a = some ⟨b, off, none⟩ ∧ b < w.heap.size ∧ ∀ k, k < ds.length → w.cell? ⟨b, off + k, none⟩ = some (.float .f32 (flAt ds k)))
theorem FlX.fl {w : World} {v : Value} {ds : List Nat} (h : FlX w v ds) (hl : ds.length ≤ 1000000000) : FlV w v ds := ⟨hl, h⟩
/-- What Masked says: a map, or nothing. -/
def MkSay (W : World) (B : Nat) (R C : Int) (n : Nat) (L : List Int) (E : Int) (r c : Int) (k : Nat) (a : Option Addr) (cc : Nat) : Prop :=
  (E = 0 → r = R ∧ c = C ∧ k = n ∧ OwnIV B W (.slice a k cc) L) ∧ (E ≠ 0 → r = 0 ∧ c = 0 ∧ k = 0)
theorem MkSay.below {W W' : World} {B n k cc : Nat} {R C E r c : Int} {L : List Int} {a : Option Addr} (h : MkSay W B R C n L E r c k a cc) (hb : Below W.heap.size W W') : MkSay W' B R C n L E r c k a cc :=
  ⟨fun e => by obtain ⟨h1, h2, h3, h4⟩ := h.1 e; exact ⟨h1, h2, h3, h4.below hb⟩, h.2⟩
theorem MkSay.mono {W : World} {B B' n k cc : Nat} {R C E r c : Int} {L : List Int} {a : Option Addr} (h : MkSay W B R C n L E r c k a cc) (hb : B' ≤ B) : MkSay W B' R C n L E r c k a cc :=
  ⟨fun e => by obtain ⟨h1, h2, h3, h4⟩ := h.1 e; exact ⟨h1, h2, h3, h4.mono hb⟩, h.2⟩
theorem MkSay.set {W : World} {B n k cc : Nat} {R C E r c : Int} {L : List Int} {a : Option Addr} (h : MkSay W B R C n L E r c k a cc) {p : Addr} (hp : p.block < B) (v : Value) : MkSay (W.setCell p v) B R C n L E r c k a cc :=
  ⟨fun e => by obtain ⟨h1, h2, h3, h4⟩ := h.1 e; exact ⟨h1, h2, h3, h4.set hp v⟩, h.2⟩
set_option maxHeartbeats 400000 in
theorem lNoMap0 (a : Option Addr) (cap : Nat) (w : World) :
    Calls Tryz.prog 24 #[.agg #[.int .i64 0, .int .i64 0, .slice a 0 cap]] w fun e w' => e = .returned (.bool true) ∧ Below w.heap.size w w' := by
  go_enter Tryz.func24, Tryz.ntmps24
  go_wp2
  go_ret
  exact ⟨ret_bool (by simp), (by (repeat' (first | with_reducible exact Below.refl _ _ | (with_reducible refine below_later_of ?_ ?_ _) | (with_reducible refine Below.alloc ?_ ?_ _) | (with_reducible refine Below.setCell ?_ ?_ _) | (with_reducible refine Below.drew ?_) | (simp; done) | (simp; omega) | omega)))⟩
end Go.Proofs.YtkoiknmijjiicaaGreatDoor
