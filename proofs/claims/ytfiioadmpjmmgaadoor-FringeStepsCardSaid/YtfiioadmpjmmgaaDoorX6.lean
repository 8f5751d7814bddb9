/- Chapter 4: copies of maps, maps and residues compared; the laws' small helpers. -/
import Derived.Test.YtfiioadmpjmmgaaDoorX8
import Derived.Test.YtfiioadmpjmmgaaDoorZK
import Derived.Test.YtfiioadmpjmmgaaDoorU117
import Derived.Lib.SlFresh
import Derived.Deep.Upon
namespace Go.Proofs.YtfiioadmpjmmgaaDoor
set_option linter.unusedVariables false
set_option linter.unusedSimpArgs false
open Go.RowKit Ntt
/-- A slice of integers in memory from some block on. -/
def OwnIV (B : Nat) (w : World) (v : Value) (zs : List Int) : Prop :=
  zs.length ≤ 1000000000 ∧ ∃ a cap, v = .slice a zs.length cap ∧ (0 < zs.length → ∃ b off, a = some ⟨b, off, none⟩ ∧ B ≤ b ∧ b < w.heap.size ∧ ∀ k, k < zs.length → w.cell? ⟨b, off + k, none⟩ = some (.int .i64 (intAt zs k)))
theorem OwnIV.ints {B : Nat} {w : World} {v : Value} {zs : List Int} (h : OwnIV B w v zs) : IntsV w v zs := by
  obtain ⟨h1, a, cap, h2, h3⟩ := h
  refine ⟨h1, a, cap, h2, fun h0 => ?_⟩
  obtain ⟨b, off, h4, -, h5, h6⟩ := h3 h0
  exact ⟨b, off, h4, h5, h6⟩
theorem OwnIV.mono {B B' : Nat} {w : World} {v : Value} {zs : List Int} (h : OwnIV B w v zs) (hB : B' ≤ B) : OwnIV B' w v zs := by
  obtain ⟨h1, a, cap, h2, h3⟩ := h
  refine ⟨h1, a, cap, h2, fun h0 => ?_⟩
  obtain ⟨b, off, h4, h7, h5, h6⟩ := h3 h0
  exact ⟨b, off, h4, by omega, h5, h6⟩
theorem OwnIV.below {B : Nat} {w w' : World} {v : Value} {zs : List Int} (h : OwnIV B w v zs) (hw : Below w.heap.size w w') : OwnIV B w' v zs := by
  obtain ⟨h1, a, cap, h2, h3⟩ := h
  refine ⟨h1, a, cap, h2, fun h0 => ?_⟩
  obtain ⟨b, off, h4, h7, h5, h6⟩ := h3 h0
  exact ⟨b, off, h4, h7, Nat.lt_of_lt_of_le h5 hw.size, fun k hk => (hw.cell (p := ⟨b, off + k, none⟩) h5).trans (h6 k hk)⟩
theorem OwnIV.set {B : Nat} {w : World} {v : Value} {zs : List Int} (h : OwnIV B w v zs) {p : Addr} (hp : p.block < B) (u : Value) : OwnIV B (w.setCell p u) v zs := by
  obtain ⟨h1, a, cap, h2, h3⟩ := h
  refine ⟨h1, a, cap, h2, fun h0 => ?_⟩
  obtain ⟨b, off, h4, h7, h5, h6⟩ := h3 h0
  refine ⟨b, off, h4, h7, by simpa using h5, fun k hk => ?_⟩
  rw [World.cell?_setCell_other _ _ _ _ (by intro e; rw [e] at hp; simp at hp; omega)]
  exact h6 k hk
theorem ownIV_own {w : World} {base n cap g : Nat} {zs : List Int} (h : w.ownsRow base 3 1 (.slice (some ⟨g, 0, none⟩) n cap) n (zs.map (.int .i64))) (hm : n ≤ 1000000000) : OwnIV base w (.slice (some ⟨g, 0, none⟩) n cap) zs := by
  have hl : zs.length = n := by have := h.1; simpa using this
  subst hl
  refine ⟨hm, _, _, rfl, fun hp => ⟨g, 0, rfl, (h.lt g rfl).1, (h.lt g rfl).2, fun k hk => ?_⟩⟩
  rw [Nat.zero_add, h.cellAt k (by omega)]
  unfold intAt
  simp [hk]
def ListPost4 (xs : List Int) (w : World) (e : Ending) (w' : World) : Prop :=
  ∃ a c, e = .returned (.slice a xs.length c) ∧ OwnIV w.heap.size w' (.slice a xs.length c) xs ∧ Below w.heap.size w w'
set_option maxHeartbeats 1000000 in
theorem copyI_some (zs : List Int) (b off cap : Nat) (w : World) (hl : zs.length ≤ 1000000000) (hp : 0 < zs.length) (hbw : b < w.heap.size) (hc : ∀ k, k < zs.length → w.cell? ⟨b, off + k, none⟩ = some (.int .i64 (intAt zs k))) :
    Calls Tryd.prog 56 #[.slice (some ⟨b, off, none⟩) zs.length cap] w (ListPost4 zs w) := by
  obtain ⟨i0, hi, hz0, hz1, hz2⟩ := info_parts info3
  have HC := Lib.hid (show ∀ W, Below w.heap.size w W → ∀ j u, (zs.map (Value.int .i64))[j]? = some u → W.cell? ((⟨b, off, none⟩ : Addr).add j) = some u from fun W hW j u hu => by
    obtain ⟨h1, rfl⟩ := intVals_at zs hu
    have e : (⟨b, off, none⟩ : Addr).add j = ⟨b, off + j, none⟩ := by simp [Addr.add] <;> omega
    rw [e]
    exact (hW.cell (p := ⟨b, off + j, none⟩) hbw).trans (hc j h1))
  clear hc
  go_enter Tryd.func56, Tryd.ntmps56
  go_wp2_with (at_builtin; refine wpList_append_own _ rfl _ _ 49 rfl w.heap.size 3 i0 (.int .i64 0) 1 8 Tryd.underlying49 hi hz0 hz1 hz2 rfl (by decide) _ 0 [] rfl (ownsRow_new1 _ _ _ _ (by simp) (by simp)) ⟨b, off, none⟩ zs.length cap (zs.map (.int .i64)) rfl ?c1 ?c2 ?c3 ?c4 ?c5 ?c6 ?_)
  case c1 => simp
  case c2 => exact HC.out _ (by (repeat' (first | with_reducible exact Below.refl _ _ | (with_reducible refine below_later_of ?_ ?_ _) | (with_reducible refine Below.alloc ?_ ?_ _) | (with_reducible refine Below.setCell ?_ ?_ _) | (with_reducible refine Below.drew ?_) | (simp; done) | (simp; omega) | omega)))
  case c3 => intro u hu; simp at hu; obtain ⟨z, _, rfl⟩ := hu; rfl
  case c4 => unfold maxLen; omega
  case c5 => omega
  case c6 => simp
  intro v' w1 hown hgrow _
  have hown2 : w1.ownsRow w.heap.size 3 1 v' zs.length (zs.map (.int .i64)) := by simpa using hown
  obtain ⟨g, c, rfl⟩ := row_slice hown2 hp
  have HPV := Lib.hid (ownIV_own hown2 hl)
  have HB := Lib.hid (show Below w.heap.size w w1 from (show Below w.heap.size w _ from (by (repeat' (first | with_reducible exact Below.refl _ _ | (with_reducible refine below_later_of ?_ ?_ _) | (with_reducible refine Below.alloc ?_ ?_ _) | (with_reducible refine Below.setCell ?_ ?_ _) | (with_reducible refine Below.drew ?_) | (simp; done) | (simp; omega) | omega)))).grown hgrow (by simp) (fun g hg => by simp [Value.ownBlock] at hg; omega))
  clear hown hown2 hgrow
  go_wp2
  go_ret
  exact ⟨_, _, rfl, HPV.out, HB.out⟩
set_option maxHeartbeats 400000 in
theorem copyI_none (a : Option Addr) (cap : Nat) (w : World) :
    Calls Tryd.prog 56 #[.slice a 0 cap] w (ListPost4 [] w) := by
  obtain ⟨i0, hi, hz0, hz1, hz2⟩ := info_parts info3
  have HS := Lib.hid (show ∀ w : World, Src Tryd.prog i0.size 49 (.slice a 0 cap) 0 [] w from fun w => by
    refine ⟨.inl ⟨_, Tryd.underlying49⟩, fun _ => rfl, ?_, ?_, by simp, fun u hu => by simp at hu⟩ <;> cases a <;> simp [Builtin.firstCells, loadCells, loadCellsFrom])
  go_enter Tryd.func56, Tryd.ntmps56
  go_wp2_with (at_builtin; refine Lib.wpList_append_run_sl _ rfl _ _ 49 rfl _ _ rfl rfl (run_append_nothing _ _ _ _ 3 i0 Tryd.underlying49 hi _ 0 0 (Nat.le_refl _) _ (HS.out _)) ?_)
  go_wp2
  go_ret
  exact ⟨_, _, rfl, ⟨by simp, _, 0, rfl, fun h => absurd h (by decide)⟩, (by (repeat' (first | with_reducible exact Below.refl _ _ | (with_reducible refine below_later_of ?_ ?_ _) | (with_reducible refine Below.alloc ?_ ?_ _) | (with_reducible refine Below.setCell ?_ ?_ _) | (with_reducible refine Below.drew ?_) | (simp; done) | (simp; omega) | omega)))⟩
theorem copyI_any (zs : List Int) (v : Value) (w : World) (hv : IntsV w v zs) : Calls Tryd.prog 56 #[v] w (ListPost4 zs w) := by
  obtain ⟨hl, a, cap, rfl, h4⟩ := hv
  by_cases h0 : 0 < zs.length
  · obtain ⟨b, off, rfl, hbw, hc⟩ := h4 h0
    exact copyI_some zs b off cap w hl h0 hbw hc
  · obtain rfl : zs = [] := List.length_eq_zero_iff.1 (by omega)
    exact copyI_none a cap w
/-- A map that is returned. -/
def MapPost (R C : Int) (zs : List Int) (w : World) (e : Ending) (w' : World) : Prop :=
  ∃ a c, e = .returned (.agg #[.int .i64 R, .int .i64 C, .slice a zs.length c]) ∧ OwnIV w.heap.size w' (.slice a zs.length c) zs ∧ Below w.heap.size w w'
theorem any_worldM {G : World → Prop} {w : World} (F : World → Prop) (hf : F w) (h : ∀ W, F W → G W) : G w := h w hf
set_option maxHeartbeats 1000000 in
theorem bCopyPhases (R C : Int) (zs : List Int) (v : Value) (w : World) (hv : IntsV w v zs) :
    Calls Tryd.prog 21 #[.agg #[.int .i64 R, .int .i64 C, v]] w (MapPost R C zs w) := by
  have HCI := Lib.hid (show ∀ W, Below w.heap.size w W → _ from fun W hW => copyI_any zs v W (hv.below hW))
  obtain ⟨-, a, cap, rfl, -⟩ := hv
  go_enter Tryd.func21, Tryd.ntmps21
  go_wp2_with (first | (go_at_call 56; (with_reducible refine (HCI.out _ (by (repeat' (first | with_reducible exact Below.refl _ _ | (with_reducible refine below_later_of ?_ ?_ _) | (with_reducible refine Below.alloc ?_ ?_ _) | (with_reducible refine Below.setCell ?_ ?_ _) | (with_reducible refine Below.drew ?_) | (simp; done) | (simp; omega) | omega)))).mono ?_); rintro e w' ⟨a', c', rfl, hv', hb⟩; have HV' := Lib.hid hv'; clear hv'; obtain ⟨p1, rfl⟩ := later_of_below hb; clear hb))
  refine bodyPost_ret ?_ rfl ⟨a', c', rfl, ?_, (by (repeat' (first | with_reducible exact Below.refl _ _ | (with_reducible refine below_later_of ?_ ?_ _) | (with_reducible refine Below.alloc ?_ ?_ _) | (with_reducible refine Below.setCell ?_ ?_ _) | (with_reducible refine Below.drew ?_) | (simp; done) | (simp; omega) | omega)))⟩
  · first | (simp [results, Tryd.results21, go_sem]; done) | simp [results, Tryd.results21, go_sem, ↓IntWalk.iteOmega]
  · refine OwnIV.mono (OwnIV.set (OwnIV.set (OwnIV.set (OwnIV.set HV'.out ?_ _) ?_ _) ?_ _) ?_ _) ?_ <;> simp <;> omega
set_option maxHeartbeats 1000000 in
theorem bSamePhases (R C R' C' : Int) (xs ys : List Int) (v u : Value) (w : World) (hx : IntsV w v xs) (hy : IntsV w u ys) {c : Bool} (hc : (R == R' && (C == C' && decide (xs = ys))) = c) :
    Calls Tryd.prog 37 #[.agg #[.int .i64 R, .int .i64 C, v], .agg #[.int .i64 R', .int .i64 C', u]] w fun e w' => e = .returned (.bool c) ∧ Below w.heap.size w w' := by
  have HC := Lib.hid hc
  obtain ⟨q, hq⟩ : ∃ q, decide (xs = ys) = q := ⟨_, rfl⟩
  have HIN := Lib.hid (show ∀ W, Below w.heap.size w W → _ from fun W hW => bInts xs ys v u W (hx.below hW) (hy.below hW) hq)
  rw [hq] at HC
  obtain ⟨-, a, cap, rfl, -⟩ := hx
  obtain ⟨-, a', cap', rfl, -⟩ := hy
  clear hc hq
  cases h1 : (R == R')
  · rw [h1] at HC
    go_enter Tryd.func37, Tryd.ntmps37
    go_wp2
    go_ret
    exact ⟨ret_bool HC.out, (by (repeat' (first | with_reducible exact Below.refl _ _ | (with_reducible refine below_later_of ?_ ?_ _) | (with_reducible refine Below.alloc ?_ ?_ _) | (with_reducible refine Below.setCell ?_ ?_ _) | (with_reducible refine Below.drew ?_) | (simp; done) | (simp; omega) | omega)))⟩
  · cases h2 : (C == C')
    · rw [h1, h2] at HC
      go_enter Tryd.func37, Tryd.ntmps37
      go_wp2
      go_ret
      exact ⟨ret_bool HC.out, (by (repeat' (first | with_reducible exact Below.refl _ _ | (with_reducible refine below_later_of ?_ ?_ _) | (with_reducible refine Below.alloc ?_ ?_ _) | (with_reducible refine Below.setCell ?_ ?_ _) | (with_reducible refine Below.drew ?_) | (simp; done) | (simp; omega) | omega)))⟩
    · rw [h1, h2] at HC
      go_enter Tryd.func37, Tryd.ntmps37
      go_wp2_with (first | (go_at_call 69; (with_reducible refine (HIN.out _ (by (repeat' (first | with_reducible exact Below.refl _ _ | (with_reducible refine below_later_of ?_ ?_ _) | (with_reducible refine Below.alloc ?_ ?_ _) | (with_reducible refine Below.setCell ?_ ?_ _) | (with_reducible refine Below.drew ?_) | (simp; done) | (simp; omega) | omega)))).mono ?_); rintro e w' ⟨rfl, hb⟩; obtain ⟨p1, rfl⟩ := later_of_below hb; clear hb))
      go_ret
      exact ⟨ret_bool HC.out, (by (repeat' (first | with_reducible exact Below.refl _ _ | (with_reducible refine below_later_of ?_ ?_ _) | (with_reducible refine Below.alloc ?_ ?_ _) | (with_reducible refine Below.setCell ?_ ?_ _) | (with_reducible refine Below.drew ?_) | (simp; done) | (simp; omega) | omega)))⟩
set_option maxHeartbeats 400000 in
theorem lLight (R C : Int) (n cap : Nat) (a : Option Addr) (w : World) {c : Bool} (hc : decide (n ≤ 150) = c) :
    Calls Tryd.prog 19 #[.agg #[.int .i64 R, .int .i64 C, .slice a n cap]] w fun e w' => e = .returned (.bool c) ∧ Below w.heap.size w w' := by
  have hd : decide ((n : Int) ≤ 150) = c := by rw [← hc, decide_eq_decide]; omega
  clear hc
  go_enter Tryd.func19, Tryd.ntmps19
  go_wp2
  go_ret
  exact ⟨rfl, (by (repeat' (first | with_reducible exact Below.refl _ _ | (with_reducible refine below_later_of ?_ ?_ _) | (with_reducible refine Below.alloc ?_ ?_ _) | (with_reducible refine Below.setCell ?_ ?_ _) | (with_reducible refine Below.drew ?_) | (simp; done) | (simp; omega) | omega)))⟩
/-! Residues compared. -/
theorem equal_struct3 {P : Program} (n : Nat) (t : TypeId) (f0 f1 f2 : Go.Field) (x0 x1 x2 y0 y1 y2 : Value) (b0 b1 b2 : Bool) (w : World) (ht : P.underlying t = some (.struct #[f0, f1, f2])) (hp : P.stoodInHeld t = false) (xs ys : Array Value) (n0 : (f0.name == "_") = false) (n1 : (f1.name == "_") = false) (n2 : (f2.name == "_") = false)
    (p0 : ∀ w, (part f0.type xs f0.offset).run P w = .ok x0 w) (p1 : ∀ w, (part f1.type xs f1.offset).run P w = .ok x1 w) (p2 : ∀ w, (part f2.type xs f2.offset).run P w = .ok x2 w) (q0 : ∀ w, (part f0.type ys f0.offset).run P w = .ok y0 w) (q1 : ∀ w, (part f1.type ys f1.offset).run P w = .ok y1 w) (q2 : ∀ w, (part f2.type ys f2.offset).run P w = .ok y2 w)
    (h0 : ∀ w, (Op.equalIn n f0.type x0 y0).run P w = .ok b0 w) (h1 : ∀ w, (Op.equalIn n f1.type x1 y1).run P w = .ok b1 w) (h2 : ∀ w, (Op.equalIn n f2.type x2 y2).run P w = .ok b2 w) :
    (Op.equalIn (n + 1) t (.agg xs) (.agg ys)).run P w = .ok (b0 && (b1 && b2)) w := by
  have n0' : f0.name ≠ "_" := by simpa using n0
  have n1' : f1.name ≠ "_" := by simpa using n1
  have n2' : f2.name ≠ "_" := by simpa using n2
  simp only [Op.equalIn, Sem.run_bind, run_underlying ht, Result.andThen_ok, run_program, hp, Bool.false_eq_true, if_false]
  cases b0 <;> cases b1 <;> cases b2 <;> simp [p0, p1, p2, q0, q1, q2, h0, h1, h2, n0', n1', n2']
noncomputable def fQ0 : Go.Field := (Tryd.prog.fieldsOf 66)[0]!
noncomputable def fQ1 : Go.Field := (Tryd.prog.fieldsOf 66)[1]!
noncomputable def fQ2 : Go.Field := (Tryd.prog.fieldsOf 66)[2]!
theorem tyQ0 : fQ0.type = 3 := by kernel_rfl
theorem tyQ1 : fQ1.type = 3 := by kernel_rfl
theorem tyQ2 : fQ2.type = 3 := by kernel_rfl
theorem undQ : Tryd.prog.underlying 66 = some (.struct #[fQ0, fQ1, fQ2]) := by kernel_rfl
theorem eqRs (a b c d e f : Int) (w : World) : (Op.equalIn 10000 66 (.agg #[.int .i64 a, .int .i64 b, .int .i64 c]) (.agg #[.int .i64 d, .int .i64 e, .int .i64 f])).run Tryd.prog w = .ok (a == d && (b == e && c == f)) w :=
  equal_struct3 9999 _ fQ0 fQ1 fQ2 (.int .i64 a) (.int .i64 b) (.int .i64 c) (.int .i64 d) (.int .i64 e) (.int .i64 f) _ _ _ w undQ (by kernel_rfl) _ _ (by kernel_rfl) (by kernel_rfl) (by kernel_rfl) (fun w => by kernel_rfl) (fun w => by kernel_rfl) (fun w => by kernel_rfl) (fun w => by kernel_rfl) (fun w => by kernel_rfl) (fun w => by kernel_rfl)
    (fun w => by rw [tyQ0]; exact equal_int 9998 3 _ Tryd.underlying3 a d w) (fun w => by rw [tyQ1]; exact equal_int 9998 3 _ Tryd.underlying3 b e w) (fun w => by rw [tyQ2]; exact equal_int 9998 3 _ Tryd.underlying3 c f w)
attribute [go_sem] eqRs
set_option maxHeartbeats 2000000 in
theorem lSameRes (D : List Res) (v u : Value) (w : World) (hx : RsV w v D) (hy : RsV w u D) :
    Calls Tryd.prog 25 #[v, u] w fun e w' => e = .returned (.bool true) ∧ Below w.heap.size w w' := by
  obtain ⟨x1, a, cap, rfl, x4⟩ := hx
  obtain ⟨-, a', cap', rfl, y4⟩ := hy
  have hl' : ((D.length : Int) != (D.length : Int)) = false := bne_self_eq_false _
  have HX4 := Lib.hid x4
  have HY4 := Lib.hid y4
  obtain ⟨n, hn⟩ : ∃ n, D.length = n := ⟨_, rfl⟩
  have HN := Lib.hid hn
  rw [hn] at hl' HX4 HY4 x1 ⊢
  clear x4 y4 hn
  go_enter Tryd.func25, Tryd.ntmps25
  go_wp2
  go_loopw [5] (fun i wr => ∃ k : Nat, k ≤ n ∧ i = .int .i64 k ∧ Below w.heap.size w wr) (fun i _ => n - (intOf i).toNat)
  case atStart => exact ⟨0, Nat.zero_le _, rfl, Below.refl _ _⟩
  case round =>
    obtain ⟨k, hk, rfl, hnx⟩ := hrel
    have HX := Lib.hid hnx
    have hsz := hnx.size
    by_cases hlt : k < n
    · obtain ⟨b, rfl, hbw, hcx⟩ := HX4.out (by omega)
      obtain ⟨b', rfl, hbw', hcy⟩ := HY4.out (by omega)
      obtain ⟨x, hx⟩ : ∃ x, D[k]? = some x := ⟨_, List.getElem?_eq_getElem (by rw [HN.out]; exact hlt)⟩
      obtain ⟨e0, e1, e2⟩ := hcx k x hx
      obtain ⟨f0, f1, f2⟩ := hcy k x hx
      obtain ⟨r, c, t⟩ := x
      dsimp only at e0 e1 e2 f0 f1 f2
      replace e0 := (hnx.cell (p := ⟨b, k * 3, none⟩) hbw).trans e0
      replace e1 := (hnx.cell (p := ⟨b, k * 3 + 1, none⟩) hbw).trans e1
      replace e2 := (hnx.cell (p := ⟨b, k * 3 + 2, none⟩) hbw).trans e2
      replace f0 := (hnx.cell (p := ⟨b', k * 3, none⟩) hbw').trans f0
      replace f1 := (hnx.cell (p := ⟨b', k * 3 + 1, none⟩) hbw').trans f1
      replace f2 := (hnx.cell (p := ⟨b', k * 3 + 2, none⟩) hbw').trans f2
      have hbr : b < wr.heap.size := by omega
      have hbr' : b' < wr.heap.size := by omega
      have hdk : decide ((k : Int) < (n : Int)) = true := by simp; omega
      have hk0 : (0 : Int) ≤ (k : Int) := by omega
      have hk1 : (k : Int) < (n : Int) := by omega
      have d1 : ((r : Int) == (r : Int)) = true := by simp
      have d2 : ((c : Int) == (c : Int)) = true := by simp
      have d3 : (t == t) = true := by simp
      clear hnx hcx hcy hx
      go_wp2
      refine wp_region_calm (by kernel_rfl) (by kernel_rfl) ?_
      repeat (go_big_quiet_step (fail))
      refine wpQuiet_nil ?_
      rintro _ ⟨pp, rfl⟩
      go_wp2
      go_roundw
      case rel => exact ⟨k + 1, by omega, by go_num, HX.out.trans (below_mono_of hsz (by (repeat' (first | with_reducible exact Below.refl _ _ | (with_reducible refine below_later_of ?_ ?_ _) | (with_reducible refine Below.alloc ?_ ?_ _) | (with_reducible refine Below.setCell ?_ ?_ _) | (with_reducible refine Below.drew ?_) | (simp; done) | (simp; omega) | omega))))⟩
      case measure => simp [intOf]; omega
    · obtain rfl : k = n := by omega
      have hdk : decide ((k : Int) < (k : Int)) = false := by simp
      clear hnx
      go_wp2
      go_ret
      exact ⟨rfl, HX.out⟩
end Go.Proofs.YtfiioadmpjmmgaaDoor
