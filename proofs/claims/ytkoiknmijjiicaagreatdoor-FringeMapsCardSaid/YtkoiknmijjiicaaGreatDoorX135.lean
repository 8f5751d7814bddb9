/- Chapter 4's great door seat: the seven variables that the readers' rows list; a law's lifting that keeps the world's shape. -/
import Derived.Test.YtkoiknmijjiicaaGreatDoorQ12
import Derived.Test.YtkoiknmijjiicaaGreatDoorX121
import Derived.Lib.LaidTab
import Derived.LaidMore
import Derived.LaidOnce
import Derived.SevenTiedAt
import Derived.Handed
import Derived.Lay
namespace Go.Proofs.YtkoiknmijjiicaaGreatDoor
set_option linter.unusedVariables false
set_option linter.unusedSimpArgs false
open Go Go.ChangeShapes Go.WideShapes Go.RowKit
def laidL7 : List (String × DataW Unit) := [("math/bits.deBruijn32tab", Rows.laid_math_bits_deBruijn32tab), ("math/bits.deBruijn64tab", Rows.laid_math_bits_deBruijn64tab), ("internal/strconv.uint64pow10", Rows.laid_internal_strconv_uint64pow10), ("unicode/utf8.acceptRanges", Rows.laid_unicode_utf8_acceptRanges), ("strconv.ErrRange", Rows.laid_strconv_ErrRange), ("strconv.ErrSyntax", Rows.laid_strconv_ErrSyntax), ("unicode/utf8.first", Rows.laid_unicode_utf8_first)]
set_option maxRecDepth 100000
theorem laid_met7 (os : Os) (args : Array Value) : laidMetH Tryz.prog laidL7 ((World.laidAll Tryz.prog os laidL7).forCall (fun _ _ => 0) ⟨#[], args, []⟩).memory :=
  show laidMet Tryz.prog laidL7 _ from laidMet_laidAll args (by kernel_rfl) (by kernel_rfl)
theorem iface_of_head {P : Program} {W : World} {n nm : String} {d : DataW Unit} {r : List (String × DataW Unit)} {g t : Nat} {ms} (hg : P.globalNamed n = some g) (ht : (P.globals[g]?).map (·.type) = some t) (hu : P.underlying t = some (.interface ms))
    (h : laidMet P ((n, .iface nm d) :: r) W) : ∃ tp p, W.cell? ⟨g, 0, none⟩ = some (.iface tp p) := by
  obtain ⟨ps, ⟨g', t', cs, fuel, p, q, e1, e2, e3, e4, -, -⟩, -⟩ := h
  obtain rfl := Option.some.inj (hg.symm.trans e1)
  obtain rfl := Option.some.inj (ht.symm.trans e2)
  have hc : ∃ u v, cs.toList = [.iface u v] := by
    cases fuel with
    | zero => simp [DataW.trod] at e4
    | succ f =>
      generalize cs.toList = l at e4
      match l, e4 with
      | [], e4 => simp [DataW.trod, hu] at e4
      | [.iface u v], _ => exact ⟨u, v, rfl⟩
      | [.nilIface], e4 => simp [DataW.trod, hu] at e4
      | x :: y :: r, e4 => simp [DataW.trod, hu] at e4
      | [.bool _], e4 | [.int _ _], e4 | [.float _ _], e4 | [.complex _ _ _], e4 | [.string _], e4 | [.pointer _], e4 | [.slice _ _ _], e4 | [.agg _], e4 | [.map _], e4 | [.nilFunc], e4 | [.func _ _ _], e4 | [.chan _], e4 | [.tuple _], e4 => simp [DataW.trod, hu] at e4
  obtain ⟨u, v, hc⟩ := hc
  refine ⟨u, v, (World.var?_cell hg e3 0).trans ?_⟩
  have : cs[0]? = cs.toList[0]? := by simp
  rw [this, hc]
  rfl
theorem tabR_of_laid {W : World} (h : laidMetH Tryz.prog laidL7 W) (hs : W.ShapedOpen Tryz.prog) : TabR W := by
  have h1 : laidMet Tryz.prog laidL7 W := h
  have h2 := laid_tail (laid_tail h1)
  have h3 := laid_tail (laid_tail h2)
  have h4 := laid_tail h3
  exact ⟨Lib.tabIs_of_head (g := 4) (by kernel_rfl) (by kernel_rfl) Tryz.underlying219 Tryz.underlying154 (by kernel_rfl) (by kernel_rfl) h2,
    iface_of_head (g := 2) (by kernel_rfl) (by kernel_rfl) Tryz.underlying129 h4, iface_of_head (g := 3) (by kernel_rfl) (by kernel_rfl) Tryz.underlying129 h3, Tryz.laysM146.s1_3 W hs⟩
theorem open_str {H : Type} {enc : TypeId × Value → H} {w : World} {base : Nat} {spare : Nat → Bool} {held : Bool} {r : Reach} {b0 : Nat} {v : Value} {d : DataW H} {p : List MemPlace} (hv : Value.okWide Tryz.prog w r b0 9 v) (_h : DataW.Trod enc Tryz.prog w base spare held 9 v d p) : ∃ s : ByteArray, v = .string s :=
  okWide_string Tryz.underlying9 hv
/-- As returnsInHanded_of_change_and, the world's shape handed on. -/
theorem handed_and_shaped {H : Type} {enc : TypeId × Value → H} {a : Assume} {C : Checked} {os : Os} {f : FuncId} {fn : Func} {s : ChangeSpec} {conds : List PathCond} {apart fresh handsOn again : Bool} {X : World → Array Value → Prop}
    (hX : ∀ (w w' : World) (args : Array Value), w.heap = w'.heap → X w args → X w' args)
    (own : ownKnob C.prog.godebug = none) (started : os.Started) (noInit : C.prog.inits.idxOf? f = none) (hfn : C.prog.funcs[f]? = some fn)
    (witness : ∃ (w : World) (tape : Tape) (i : Input), w.os = os ∧ (w.forCall tape i).Shaped C.prog ∧ i.vars = [] ∧ Input.okWide C.prog (w.forCall tape i) .any w.heap.size f i ∧
      ((s.pre enc C.prog fn conds apart (w.forCall tape i).memory i.args ∧ X (w.forCall tape i).memory i.args) ∧ sizedMet enc C.prog fn (OpenSpec.ofChange s) apart (w.forCall tape i).memory i.args) ∧ a.holds C.prog (lone (Frame.enter C.prog f i.args .normal) [] (w.forCall tape i)))
    (contract : ∀ (W : World) (base : Nat) (args : Array Value) (ds gs : List (DataW H)) (before : List MemPlace),
      (∀ (j : Nat) t v, fn.params[j]? = some t → args[j]? = some v → Value.okWide C.prog W .any base t v) →
      DataW.Whole enc C.prog fn.params.toList s.vars apart W args.toList ds gs before → X W args → W.ShapedOpen C.prog →
      Calls C.prog f args W fun e W' => ∃ v, e = .returned v ∧ s.post enc C.prog fn apart fresh handsOn again W args v W') :
    ReturnsInHanded a C os f .any (fun w args => (s.pre enc C.prog fn conds apart w args ∧ X w args) ∧ sizedMet enc C.prog fn (OpenSpec.ofChange s) apart w args) (s.post enc C.prog fn apart fresh handsOn again) := by
  refine returnsInHanded_of_calls own started noInit witness ?_
  intro w tape i _ hsh _ hok hpre _
  obtain ⟨_, _, _, fn', hfn', _, _, _, _, hval⟩ := hok
  obtain rfl : fn' = fn := Option.some.inj (hfn'.symm.trans hfn)
  obtain ⟨⟨⟨ds, gs, before, hw, hc⟩, hx⟩, hz⟩ := hpre
  have hw' := DataW.Whole.of_heap (w' := w.forCall tape i) (by rfl) hw
  refine (contract (w.forCall tape i) w.heap.size i.args ds gs before hval hw' (hX _ _ _ (by rfl) hx) hsh).mono fun e W' ⟨v, he, hp⟩ => ?_
  subst he
  exact ChangeSpec.post_blind hp
end Go.Proofs.YtkoiknmijjiicaaGreatDoor
