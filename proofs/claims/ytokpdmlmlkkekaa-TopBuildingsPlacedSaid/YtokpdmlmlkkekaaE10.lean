/- The law TopBuildingsPlaced returns true, whatever it is given. -/
import Derived.Test.YtokpdmlmlkkekaaE8
namespace Go.Proofs.Ytokpdmlmlkkekaa
set_option linter.unusedVariables false
open Go.RowKit
theorem tbp_any (t : Trk) (r : Rel) (a : Option Addr) (cap : Nat) (ps : List Plc) (pa : Option Addr) (pcap : Nat) (u v : Int) (w : World) (hs : SrcAt w a r.ds) (hps : PlSrc w pa ps) (hwf : Wf2 ps) :
    Calls Try.prog 17 #[.agg #[.int .i64 t.sx, .int .i64 t.sy, .int .i64 t.sz, .int .i64 t.step, .int .i64 t.lines, .int .i64 t.near, .int .i64 t.bin, .int .i64 t.bins, .bool t.east, .int .i64 r.x, .int .i64 r.y, .int .i64 r.cell, .int .i64 r.rows, .int .i64 r.cols, .slice a r.ds.length cap], .slice pa ps.length pcap, .agg #[.int .i64 u, .int .i64 v]] w fun e w' => e = .returned (.bool true) ∧ Below w.heap.size w w' := by
  by_cases h : r.ds.length ≤ 40 ∧ checkTrackP t = 0 ∧ relErrP feB r = 0
  · obtain ⟨b, off, rfl, hbw, hc⟩ := hs (rel_pos h.2.2)
    exact tbp_long t r b off cap ps pa pcap u v w h.1 h.2.1 h.2.2 hbw hc hps hwf
  · exact tbp_short t r a cap ps pa pcap u v w hs h
end Go.Proofs.Ytokpdmlmlkkekaa
