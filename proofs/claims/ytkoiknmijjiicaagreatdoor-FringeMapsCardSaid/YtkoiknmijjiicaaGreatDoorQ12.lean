/- Chapter 1's door seat: the tables that each row lists. -/
import Derived.Test.YtkoiknmijjiicaaGreatDoorZQ
import Derived.Test.YtkoiknmijjiicaaGreatDoorU39
import Derived.Test.YtkoiknmijjiicaaGreatDoorTie
import Derived.Lib.LaidTab
import Derived.LaidMore
import Derived.LaidOnce
import Derived.SevenTiedAt
namespace Go.Proofs.YtkoiknmijjiicaaGreatDoor
set_option linter.unusedVariables false
set_option linter.unusedSimpArgs false
open Go Go.RowKit
def laidL : List (String × DataW Unit) := [("math/bits.deBruijn32tab", Rows.laid_math_bits_deBruijn32tab), ("math/bits.deBruijn64tab", Rows.laid_math_bits_deBruijn64tab), ("internal/strconv.uint64pow10", Rows.laid_internal_strconv_uint64pow10)]
set_option maxRecDepth 100000
theorem door_met (os : Os) (args : Array Value) : laidMetH Tryz.prog laidL ((World.doorLaid Tryz.prog 24 os).forCall (fun _ _ => 0) ⟨#[], args, []⟩).memory :=
  laidMetH_of_parts3 (fuel := 8) (laidMet_of_run' 8 (by kernel_rfl) (by kernel_rfl)) (by kernel_rfl) (by kernel_rfl)
theorem laid_tail {P : Program} {x : String × DataW Unit} {r : List (String × DataW Unit)} {w : World} (h : laidMet P (x :: r) w) : laidMet P r w := by
  obtain ⟨ps, hv, hnd, hrows⟩ := h
  obtain ⟨n, d⟩ := x
  obtain ⟨g, t, cs, fuel, p, q, _, _, _, _, hq, rfl⟩ := hv
  exact ⟨q, hq, List.Nodup.sublist (List.sublist_append_right _ _) hnd, fun b off hm => hrows b off (List.mem_append_right _ hm)⟩
theorem tab_of_laid {W : World} (h : laidMetH Tryz.prog laidL W) : Tab W := by
  have h1 : laidMet Tryz.prog laidL W := h
  have h2 : laidMet Tryz.prog [("internal/strconv.uint64pow10", Lib.tabData .u64 Lib.pow10Tab)] W := laid_tail (laid_tail h1)
  exact Lib.tabIs_of_head (g := 4) (by kernel_rfl) (by kernel_rfl) Tryz.underlying219 Tryz.underlying154 (by kernel_rfl) (by kernel_rfl) h2
end Go.Proofs.YtkoiknmijjiicaaGreatDoor
