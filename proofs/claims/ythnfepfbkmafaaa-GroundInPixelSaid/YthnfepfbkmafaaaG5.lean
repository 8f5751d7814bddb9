/- CheckPolygon. -/
import Derived.Test.YthnfepfbkmafaaaG4
import Derived.Test.YthnfepfbkmafaaaA2
import Derived.Maps.OwnOps
namespace Go.Proofs.Ythnfepfbkmafaaa
set_option linter.unusedVariables false
open Go.RowKit
open Go.Maps
theorem ownsMap_below {H : Type} {P : Program} {k : TypeId} {R : Value → Option (DataW H × List MemPlace)} {w w' : World} {b n B : Nat} {D : DataW H} (h : w.ownsMap P k R b n D) (hb : b < B) (hw : Below B w w') : w'.ownsMap P k R b n D := by
  obtain ⟨es, clock, h1, h2⟩ := h
  exact ⟨es, clock, (hw.block b hb).trans h1, h2⟩
theorem ownsMap_later {H : Type} {P : Program} {k : TypeId} {R : Value → Option (DataW H × List MemPlace)} {w : World} {b n : Nat} {D : DataW H} (h : w.ownsMap P k R b n D) (p : Regrown) : (later w p).ownsMap P k R b n D :=
  ownsMap_below h h.lt (below_later w p)
theorem wpList_lookup_bool (w : World) {ops : Array Oper} {rest : List Oper} {o : Oper} {a : Act} {Q : Exit → Act → World → Prop}
    (hg : o.guard = none) (m x : Operand) (t : TypeId) (hop : o.op = Op.lookup t m x false) (ht : Try.prog.underlying t = some (.map 167 4)) (b n : Nat) (D : DataW Unit)
    (hm : a.eval m = .map (some b)) (hown : w.ownsMap Try.prog 167 (plainElem Try.prog 4) b n D) (key : Value) (kl : Lit) (hx : a.eval x = key) (hkey : keyOf Try.prog 167 key = some kl)
    (c : Bool) (hc : D.atKey kl (.lit (.bool false)) = .lit (.bool c)) (hK : wpList Try.prog ops Q rest (a.put o.dst (.bool c)) w) : wpList Try.prog ops Q (o :: rest) a w := by
  refine wpList_plain hg fun K' hK' => ?_
  have hrun := lookup_bool hown ht hkey hc
  unfold Oper.wp
  simp [execOp, hop, hm, hx, hrun, Result.andThen]
  exact hK' _ _ hK
theorem below_mono_of {B B' : Nat} {w w' : World} (h : B' ≤ B) (hb : Below B w w') : Below B' w w' := hb.mono h
theorem sidesUpto_len (ps : List Plc) (m : Int) : ∀ n, (sidesUpto ps m n).length = n * 4
  | 0 => rfl
  | n + 1 => by unfold sidesUpto; rw [List.length_append, sidesUpto_len ps m n]; simp [Sd.cells]; omega
theorem sidesUpto_at (ps : List Plc) (m : Int) (k : Nat) (j : Nat) (hj : j < 4) : ∀ n, k < n → (sidesUpto ps m n)[k * 4 + j]? = (sideAt ps m k).cells[j]?
  | 0, h => by omega
  | n + 1, h => by
    unfold sidesUpto
    have hl := sidesUpto_len ps m n
    by_cases e : k = n
    · subst e
      rw [List.getElem?_append_right (by omega), hl, show k * 4 + j - k * 4 = j by omega]
    · rw [List.getElem?_append_left (by omega)]
      exact sidesUpto_at ps m k j hj n (by omega)
theorem ownsRow_slice {w : World} {base e size n : Nat} {v : Value} {xs : List Value} (h : w.ownsRow base e size v n xs) (hn : 0 < n) : ∃ g cap, v = .slice (some ⟨g, 0, none⟩) n cap ∧ base ≤ g ∧ g < w.heap.size ∧ n ≤ cap ∧ cap ≤ maxLen := by
  obtain ⟨h1, h2 | ⟨g, cap, cur, h3, h4, h5, h6, h7, _⟩⟩ := h
  · obtain ⟨rfl, rfl⟩ := h2; omega
  · exact ⟨g, cap, h3, h4, (Array.getElem?_eq_some_iff.1 h5).1, h6, h7⟩
/-- Block g holds these sides, one behind the other. -/
def Sides (w : World) (g : Nat) (ps : List Plc) (m : Int) (n : Nat) : Prop :=
  ∀ k, k < n → w.cell? ⟨g, k * 4, none⟩ = some (.int .i64 (sideAt ps m k).x1) ∧ w.cell? ⟨g, k * 4 + 1, none⟩ = some (.int .i64 (sideAt ps m k).y1) ∧ w.cell? ⟨g, k * 4 + 2, none⟩ = some (.int .i64 (sideAt ps m k).x2) ∧ w.cell? ⟨g, k * 4 + 3, none⟩ = some (.int .i64 (sideAt ps m k).y2)
theorem Sides.below {w w' : World} {g B n : Nat} {ps : List Plc} {m : Int} (h : Sides w g ps m n) (hb : g < B) (hw : Below B w w') : Sides w' g ps m n := fun k hk =>
  ⟨(hw.cell (p := ⟨g, k * 4, none⟩) hb).trans (h k hk).1, (hw.cell (p := ⟨g, k * 4 + 1, none⟩) hb).trans (h k hk).2.1, (hw.cell (p := ⟨g, k * 4 + 2, none⟩) hb).trans (h k hk).2.2.1, (hw.cell (p := ⟨g, k * 4 + 3, none⟩) hb).trans (h k hk).2.2.2⟩
theorem sides_row (ps : List Plc) (m : Int) (b cap : Nat) (w : World) (hm : m = 1 ∨ m = 2) (hn : 3 ≤ ps.length) (hn2 : ps.length ≤ 1000) (hbw : b < w.heap.size) (hp : Places w b ps) (hmid : ∀ k, k < ps.length → Mid1 (plcAt ps k)) :
    Calls Try.prog 115 #[.slice (some ⟨b, 0, none⟩) ps.length cap, .int .i64 m] w
      fun e w' => ∃ g c, e = .returned (.slice (some ⟨g, 0, none⟩) ps.length c) ∧ w.heap.size ≤ g ∧ g < w'.heap.size ∧ ps.length ≤ c ∧ c ≤ maxLen ∧ Sides w' g ps m ps.length ∧ Below w.heap.size w w' :=
  (sides_any ps m b cap w hm hn hn2 hbw hp hmid).mono fun e w' ⟨v, he, ho, hb⟩ => by
    obtain ⟨g, c, rfl, h1, h2, h3, h4⟩ := ownsRow_slice ho (by omega)
    refine ⟨g, c, he, h1, h2, h3, h4, fun k hk => ?_, hb⟩
    have a0 := (ho.cellAt (k * 4) (by omega)).trans (sidesUpto_at ps m k 0 (by omega) ps.length hk)
    have a1 := (ho.cellAt (k * 4 + 1) (by omega)).trans (sidesUpto_at ps m k 1 (by omega) ps.length hk)
    have a2 := (ho.cellAt (k * 4 + 2) (by omega)).trans (sidesUpto_at ps m k 2 (by omega) ps.length hk)
    have a3 := (ho.cellAt (k * 4 + 3) (by omega)).trans (sidesUpto_at ps m k 3 (by omega) ps.length hk)
    exact ⟨a0, a1, a2, a3⟩
theorem seenB_def (ps : List Plc) (k : Nat) : seenB ps k = (List.range k).any fun j => decide ((plcAt ps j).x = (plcAt ps k).x) && decide ((plcAt ps j).y = (plcAt ps k).y) := rfl
theorem checkPlace_e (x y z : Int) (w : World) {e0 : Int} (h : checkPlaceP x y z = e0) :
    Calls Try.prog 89 #[.agg #[.int .i64 x, .int .i64 y, .int .i64 z]] w fun e w' => e = .returned (.int .i64 e0) ∧ Below w.heap.size w w' := by
  subst h; exact checkPlace_any x y z w
theorem sideAt_fit {ps : List Plc} (hmid : ∀ k, k < ps.length → Mid1 (plcAt ps k)) {k : Nat} (hk : k < ps.length) : (sideAt ps 1 k).Fit := by
  obtain ⟨a1, a2, a3, a4⟩ := hmid k hk
  obtain ⟨b1, b2, b3, b4⟩ := hmid (nextN ps.length k) (by unfold nextN; split <;> omega)
  unfold sideAt Sd.Fit Mid
  refine ⟨⟨?_, ?_⟩, ⟨?_, ?_⟩, ⟨?_, ?_⟩, ?_, ?_⟩ <;> simp only <;> omega
set_option maxRecDepth 20000 in
set_option maxHeartbeats 1000000 in
theorem checkPolygon_any (ps : List Plc) (b cap : Nat) (w : World) (hn : 3 ≤ ps.length) (hn2 : ps.length ≤ 20) (hbw : b < w.heap.size) (hp : Places w b ps) (hwf : Wf2 ps) :
    Calls Try.prog 51 #[.slice (some ⟨b, 0, none⟩) ps.length cap] w fun e w' => e = .returned (.int .i64 (checkPolygonP ps)) ∧ Below w.heap.size w w' := by
  have HQ := Lib.hid (show checkPolygonP ps = open Classical in if scan (cornerErr ps) 0 ps.length = 0 then (if Clash ps then 13 else 0) else scan (cornerErr ps) 0 ps.length by
    unfold checkPolygonP; rw [if_neg (by omega), if_neg (by omega)])
  have hmm := @run_makeMap Try.prog
  go_enter Try.func51, Try.ntmps51
  go_wp2
  go_loopw [24] (fun i wr => ∃ k : Nat, k ≤ ps.length ∧ i = .int .i64 k ∧ wr.ownsMap Try.prog 167 (plainElem Try.prog 4) w.heap.size k (knownD ps k) ∧ Below w.heap.size w wr ∧ ∀ j, j < k → cornerErr ps j = 0)
    (fun i _ => ps.length - (intOf i).toNat)
  case atStart => exact ⟨0, Nat.zero_le _, rfl, World.ownsMap_made _ _ _ _, (Below.refl _ _).alloc (Nat.le_refl _) _, fun j hj => by omega⟩
  case round =>
    obtain ⟨k, hk, rfl, hown, hnx, hz⟩ := hrel
    have HZ := Lib.hid hz
    clear hz
    by_cases hlt : k < ps.length
    · have hbr : b < wr.heap.size := by have := hnx.size; omega
      have hmr : w.heap.size < wr.heap.size := hown.lt
      obtain ⟨c1, c2, c3⟩ := (hp.below hbw hnx) k hlt
      obtain ⟨f1, f2⟩ := hwf k hlt
      have HK := Lib.hid (keyC_of f1 f2)
      have hat := knownD_at hwf _ _ f1 f2 k hk
      rw [← seenB_def] at hat
      have HE := Lib.hid (show cornerErr ps k = if placeB (plcAt ps k).x (plcAt ps k).y (plcAt ps k).z then (if seenB ps k then 28 else 0) else 2 from rfl)
      have hput : knownD ps (k + 1) = (knownD ps k).put (keyC (plcAt ps k).x (plcAt ps k).y) (.lit (.bool true)) := rfl
      have HU := Lib.hid hput
      have HO := Lib.hid hown
      have HX := Lib.hid hnx
      clear hput hown hnx hp hwf f1 f2
      generalize plcAt ps k = p at c1 c2 c3 HK hat HE HU
      cases hpl : placeB p.x p.y p.z
      · have HP := Lib.hid (show checkPlaceP p.x p.y p.z = 2 by unfold checkPlaceP; rw [hpl]; rfl)
        have he : cornerErr ps k = 2 := by rw [HE.out, hpl]; rfl
        have HG := Lib.hid he
        clear hat HE he
        have HPL := Lib.hid hpl
        clear hpl
        go_wp2_with (first | (go_at_call 89; refine (checkPlace_e _ _ _ _ HP.out).mono ?_; rintro e w' ⟨rfl, hb⟩; obtain ⟨pp, rfl⟩ := later_of_below hb; clear hb))
        go_ret
        refine ⟨ret_int ?_, ?_⟩
        · rw [HQ.out, scan_hit ps.length 0 k (fun j _ h => HZ.out j h) (Nat.zero_le _) (by omega) (by rw [HG.out]; decide), HG.out]; rfl
        · exact below_later_of (HX.out.alloc (by omega) _) (by simp; omega) _
      · have HP := Lib.hid (show checkPlaceP p.x p.y p.z = 0 by unfold checkPlaceP; rw [hpl]; rfl)
        have he : cornerErr ps k = if seenB ps k then 28 else 0 := by rw [HE.out, hpl]; rfl
        have HG := Lib.hid he
        clear HE he
        have HPL := Lib.hid hpl
        clear hpl
        rcases (show seenB ps k = false ∨ seenB ps k = true by cases seenB ps k <;> simp) with hs | hs
        · rw [hs] at hat
          have HL := Lib.hid hat
          have HS := Lib.hid hs
          clear hat hs
          go_wp2_with (first | (go_at_call 89; refine (checkPlace_e _ _ _ _ HP.out).mono ?_; rintro e w' ⟨rfl, hb⟩; obtain ⟨pp, rfl⟩ := later_of_below hb; clear hb) | (go_at_call 116; refine (cornerOf_any _ _ _ _).mono ?_; rintro e w' ⟨rfl, hb⟩; obtain ⟨pp, rfl⟩ := later_of_below hb; clear hb) | (at_lookup; refine wpList_lookup_bool _ rfl _ _ 175 rfl Try.underlying175 w.heap.size k (knownD ps k) rfl (ownsMap_later (ownsMap_later (HO.out.alloc _) _) _) _ _ rfl HK.out _ HL.out ?_) | (at_mapUpdate; refine wpList_mapUpdate_own _ rfl _ _ _ 175 rfl 167 4 lawC Try.underlying175 _ w.heap.size k _ rfl (ownsMap_later (ownsMap_later (ownsMap_later (HO.out.alloc _) _) _) _) (by unfold maxLen; omega) _ _ _ rfl rfl HK.out _ [] (plainElem_bool Try.underlying4 true) ?_; intro w1 hown1 hgrow1))
          have hgr : w.heap.size ≤ w1.heap.size := by have := hgrow1.size; simp at this; omega
          have HX2 := Lib.hid (show Below w.heap.size w w1 from (below_later_of (below_later_of (below_later_of (HX.out.alloc (by omega) _) (by simp; omega) _) (by simp; omega) _) (by simp; omega) _).grown hgrow1 (by simp; omega) (fun j hj => by cases hj; exact Nat.le_refl _))
          have HO1 := Lib.hid hown1
          clear hown1 hgrow1
          go_wp2
          go_roundw
          case rel =>
            refine ⟨k + 1, by omega, by go_num, ?_, HX2.out, fun j hj => ?_⟩
            · rw [HU.out]; exact HO1.out
            · by_cases e : j = k
              · rw [e, HG.out, HS.out]; rfl
              · exact HZ.out j (by omega)
          case measure => simp [intOf]; omega
        · rw [hs] at hat
          have HL := Lib.hid hat
          have HS := Lib.hid hs
          clear hat hs
          go_wp2_with (first | (go_at_call 89; refine (checkPlace_e _ _ _ _ HP.out).mono ?_; rintro e w' ⟨rfl, hb⟩; obtain ⟨pp, rfl⟩ := later_of_below hb; clear hb) | (go_at_call 116; refine (cornerOf_any _ _ _ _).mono ?_; rintro e w' ⟨rfl, hb⟩; obtain ⟨pp, rfl⟩ := later_of_below hb; clear hb) | (at_lookup; refine wpList_lookup_bool _ rfl _ _ 175 rfl Try.underlying175 w.heap.size k (knownD ps k) rfl (ownsMap_later (ownsMap_later (HO.out.alloc _) _) _) _ _ rfl HK.out _ HL.out ?_) | (at_mapUpdate; refine wpList_mapUpdate_own _ rfl _ _ _ 175 rfl 167 4 lawC Try.underlying175 _ w.heap.size k _ rfl (ownsMap_later (ownsMap_later (ownsMap_later (HO.out.alloc _) _) _) _) (by unfold maxLen; omega) _ _ _ rfl rfl HK.out _ [] (plainElem_bool Try.underlying4 true) ?_; intro w1 hown1 hgrow1))
          go_ret
          have hk28 : cornerErr ps k = 28 := by rw [HG.out, HS.out]; rfl
          refine ⟨ret_int ?_, ?_⟩
          · rw [HQ.out, scan_hit ps.length 0 k (fun j _ h => HZ.out j h) (Nat.zero_le _) (by omega) (by rw [hk28]; decide), hk28]; rfl
          · exact below_later_of (below_later_of (HX.out.alloc (by omega) _) (by simp; omega) _) (by simp; omega) _
    · have hall : ∀ j, j < ps.length → cornerErr ps j = 0 := fun j hj => HZ.out j (by omega)
      have hmid : ∀ j, j < ps.length → Mid1 (plcAt ps j) := fun j hj => by
        have h1 := hall j hj
        unfold cornerErr at h1
        split at h1
        · rename_i h2
          obtain ⟨⟨a1, a2⟩, ⟨b1, b2⟩, _⟩ := placeB_iff.1 h2
          exact ⟨a1, a2, b1, b2⟩
        · exact absurd h1 (by decide)
      have HQ2 := Lib.hid (show checkPolygonP ps = open Classical in if Clash ps then 13 else 0 by
        rw [HQ.out, if_pos (scan_zero ps.length 0 (fun j _ h => hall j (by omega)))])
      have HM := Lib.hid hmid
      have hbr : b < wr.heap.size := by have := hnx.size; omega
      have HP := Lib.hid (hp.below hbw hnx)
      have HX := Lib.hid hnx
      clear HQ HZ hall hmid hp hnx hown hwf
      go_wp2_with (first | (go_at_call 115; refine (sides_row ps 1 b cap _ (Or.inl rfl) (by omega) (by omega) (by omega) HP.out HM.out).mono ?_; rintro e w2 ⟨g, c, rfl, hg1, hg2, hc1, hc2, hsd, hb2⟩))
      have hwg : w.heap.size ≤ wr.heap.size := HX.out.size
      have HB := Lib.hid (show Below w.heap.size w w2 from HX.out.trans (hb2.mono hwg))
      have hw2 : wr.heap.size ≤ w2.heap.size := hb2.size
      have HSD := Lib.hid hsd
      clear hb2 hsd HX HP
      go_wp2
      go_loopw [45] (fun i wr => ∃ k : Nat, k ≤ ps.length ∧ i = .int .i64 k ∧ Below w2.heap.size w2 wr ∧ ∀ i, i < k → ∀ j, j < i → clashB ps i j = false)
        (fun i _ => ps.length - (intOf i).toNat)
      case atStart => exact ⟨0, Nat.zero_le _, rfl, Below.refl _ _, fun j hj => by omega⟩
      case round =>
        obtain ⟨i, hi, rfl, hnx, hz⟩ := hrel
        have HZ := Lib.hid hz
        have HX := Lib.hid hnx
        have hsz : w2.heap.size ≤ wr.heap.size := hnx.size
        obtain ⟨wo, hwo⟩ : ∃ wo : World, wo = wr := ⟨_, rfl⟩
        subst hwo
        clear hz
        by_cases hil : i < ps.length
        · obtain ⟨d1, d2, d3, d4⟩ := (HSD.out.below hg2 hnx) i hil
          have hfi := sideAt_fit HM.out hil
          have HFI := Lib.hid hfi
          have HDI := Lib.hid (show ∃ s, sideAt ps 1 i = s from ⟨_, rfl⟩)
          clear hfi hnx
          obtain ⟨s, hs⟩ := HDI.out
          rw [hs] at d1 d2 d3 d4 HFI
          have HS := Lib.hid hs
          clear hs HDI
          have hgo : g < wo.heap.size := by omega
          go_wp2
          have HW3 := Lib.hid (show ∃ W3, wo.alloc (.cells #[.int .i64 s.x1, .int .i64 s.y1, .int .i64 s.x2, .int .i64 s.y2] 170) = W3 ∧ W3.cell? ⟨wo.heap.size, 0, none⟩ = some (.int .i64 s.x1) ∧ W3.cell? ⟨wo.heap.size, 1, none⟩ = some (.int .i64 s.y1) ∧ W3.cell? ⟨wo.heap.size, 2, none⟩ = some (.int .i64 s.x2) ∧ W3.cell? ⟨wo.heap.size, 3, none⟩ = some (.int .i64 s.y2) ∧ wo.heap.size < W3.heap.size ∧ Below w2.heap.size w2 W3 from
            ⟨_, rfl, World.cell?_alloc_new _ _ _ _, World.cell?_alloc_new _ _ _ _, World.cell?_alloc_new _ _ _ _, World.cell?_alloc_new _ _ _ _, by simp, HX.out.alloc hsz _⟩)
          clear d1 d2 d3 d4
          obtain ⟨W3, hW3, e1, e2, e3, e4, hlt3, hB3⟩ := HW3.out
          rw [hW3]
          have HB3 := Lib.hid hB3
          have E1 := Lib.hid e1
          have E2 := Lib.hid e2
          have E3 := Lib.hid e3
          have E4 := Lib.hid e4
          clear HW3 hW3 e1 e2 e3 e4 hB3 HX
          go_loopw [54] (fun v wr => ∃ j : Nat, j ≤ i ∧ v = .int .i64 j ∧ Below W3.heap.size W3 wr ∧ ∀ j', j' < j → clashB ps i j' = false)
            (fun v _ => i - (intOf v).toNat)
          case atStart => exact ⟨0, Nat.zero_le _, rfl, Below.refl _ _, fun j hj => by omega⟩
          case round =>
            obtain ⟨j, hj, rfl, hnx, hy⟩ := hrel
            have HY := Lib.hid hy
            have hszi : W3.heap.size ≤ wr.heap.size := hnx.size
            have s1 := (hnx.cell (p := ⟨wo.heap.size, 0, none⟩) hlt3).trans E1.out
            have s2 := (hnx.cell (p := ⟨wo.heap.size, 1, none⟩) hlt3).trans E2.out
            have s3 := (hnx.cell (p := ⟨wo.heap.size, 2, none⟩) hlt3).trans E3.out
            have s4 := (hnx.cell (p := ⟨wo.heap.size, 3, none⟩) hlt3).trans E4.out
            have HXI := Lib.hid (HB3.out.trans (hnx.mono (by omega)))
            have HXW := Lib.hid hnx
            clear hy hnx
            by_cases hjl : j < i
            · obtain ⟨d1, d2, d3, d4⟩ := (HSD.out.below hg2 HXI.out) j (by omega)
              have HFJ := Lib.hid (sideAt_fit HM.out (show j < ps.length by omega))
              have HDJ := Lib.hid (show ∃ o, sideAt ps 1 j = o from ⟨_, rfl⟩)
              obtain ⟨o, ho⟩ := HDJ.out
              rw [ho] at d1 d2 d3 d4 HFJ
              have HO := Lib.hid ho
              clear ho HDJ
              have HCL := Lib.hid (show clashB ps i j = if i = j + 1 then hasP s o.x1 o.y1 || hasP o s.x2 s.y2 else if j = 0 ∧ i + 1 = ps.length then hasP s o.x2 o.y2 || hasP o s.x1 s.y1 else meetsP s o by
                unfold clashB; rw [HS.out, HO.out])
              obtain ⟨sf1, sf2, sf3, sf4⟩ := HFI.out
              obtain ⟨of1, of2, of3, of4⟩ := HFJ.out
              have SF1 := Lib.hid sf1
              have SF2 := Lib.hid sf2
              have SF3 := Lib.hid sf3
              have SF4 := Lib.hid sf4
              have OF1 := Lib.hid of1
              have OF2 := Lib.hid of2
              have OF3 := Lib.hid of3
              have OF4 := Lib.hid of4
              clear sf1 sf2 sf3 sf4 of1 of2 of3 of4
              rcases (show clashB ps i j = false ∨ clashB ps i j = true by cases clashB ps i j <;> simp) with hc | hc
              · rw [hc] at HCL
                have HC := Lib.hid hc
                clear hc
                have HR : Hid (∃ a b c d : Bool, hasP s o.x1 o.y1 = a ∧ hasP o s.x2 s.y2 = b ∧ hasP s o.x2 o.y2 = c ∧ hasP o s.x1 s.y1 = d ∧ (i = j + 1 → a = false ∧ b = false) ∧ (¬ i = j + 1 → j = 0 ∧ i + 1 = ps.length → c = false ∧ d = false) ∧ (¬ i = j + 1 → ¬ (j = 0 ∧ i + 1 = ps.length) → meetsP s o = false)) := by
                  refine Lib.hid ⟨_, _, _, _, rfl, rfl, rfl, rfl, fun h => ?_, fun h1 h2 => ?_, fun h1 h2 => ?_⟩
                  · have := HCL.out; rw [if_pos h] at this; simpa using this.symm
                  · have := HCL.out; rw [if_neg h1, if_pos h2] at this; simpa using this.symm
                  · have := HCL.out; rw [if_neg h1, if_neg h2] at this; exact this.symm
                obtain ⟨a, b', c', d', ha, hb, hcc, hd, k1, k2, k3⟩ := HR.out
                have HA := Lib.hid ha
                have HB1 := Lib.hid hb
                have HC1 := Lib.hid hcc
                have HD1 := Lib.hid hd
                clear HR ha hb hcc hd HCL
                by_cases q1 : i = j + 1
                · obtain ⟨rfl, rfl⟩ := k1 q1
                  have q11 : i ≤ j + 1 := by omega
                  clear k1 k2 k3 q1
                  go_wp2_with (first | (go_at_call 121; (with_reducible refine (has_any s o.x1 o.y1 _ HFI.out OF1.out OF2.out HA.out).mono ?_); rintro e w' ⟨rfl, hb⟩; obtain ⟨pp, rfl⟩ := later_of_below hb; clear hb) | (go_at_call 121; (with_reducible refine (has_any o s.x2 s.y2 _ HFJ.out SF3.out SF4.out HB1.out).mono ?_); rintro e w' ⟨rfl, hb⟩; obtain ⟨pp, rfl⟩ := later_of_below hb; clear hb))
                  (go_roundw; (case rel => exact ⟨j + 1, by omega, by go_num, HXW.out.trans ((by (repeat' (first | with_reducible exact Below.refl _ _ | (with_reducible refine below_later_of ?_ ?_ _) | (with_reducible refine Below.alloc ?_ ?_ _) | (with_reducible refine Below.setCell ?_ ?_ _) | (with_reducible refine Below.drew ?_) | (simp; done) | (simp; omega) | omega)))), fun j' hj' => if e : j' = j then (by rw [e]; exact HC.out) else HY.out j' (by omega)⟩); (case measure => simp [intOf]; omega))
                · by_cases q2 : j = 0 ∧ i + 1 = ps.length
                  · obtain ⟨rfl, rfl⟩ := k2 q1 q2
                    obtain ⟨q21, q22⟩ := q2
                    have q23 : j ≤ 0 := by omega
                    have q24 : ps.length ≤ i + 1 := by omega
                    have q11 : j + 1 < i := by omega
                    clear k1 k2 k3 q1 q21 q22
                    go_wp2_with (first | (go_at_call 121; (with_reducible refine (has_any s o.x2 o.y2 _ HFI.out OF3.out OF4.out HC1.out).mono ?_); rintro e w' ⟨rfl, hb⟩; obtain ⟨pp, rfl⟩ := later_of_below hb; clear hb) | (go_at_call 121; (with_reducible refine (has_any o s.x1 s.y1 _ HFJ.out SF1.out SF2.out HD1.out).mono ?_); rintro e w' ⟨rfl, hb⟩; obtain ⟨pp, rfl⟩ := later_of_below hb; clear hb))
                    (go_roundw; (case rel => exact ⟨j + 1, by omega, by go_num, HXW.out.trans ((by (repeat' (first | with_reducible exact Below.refl _ _ | (with_reducible refine below_later_of ?_ ?_ _) | (with_reducible refine Below.alloc ?_ ?_ _) | (with_reducible refine Below.setCell ?_ ?_ _) | (with_reducible refine Below.drew ?_) | (simp; done) | (simp; omega) | omega)))), fun j' hj' => if e : j' = j then (by rw [e]; exact HC.out) else HY.out j' (by omega)⟩); (case measure => simp [intOf]; omega))
                  · have hm := Lib.hid (k3 q1 q2)
                    have q11 : j + 1 < i := by omega
                    clear k1 k2 k3 q1
                    by_cases q3 : j = 0
                    · have q23 : j ≤ 0 := by omega
                      have q24 : i + 1 < ps.length := by omega
                      clear q2 q3
                      go_wp2_with (first | (go_at_call 122; (with_reducible refine (meets_any s o _ HFI.out HFJ.out hm.out).mono ?_); rintro e w' ⟨rfl, hb⟩; obtain ⟨pp, rfl⟩ := later_of_below hb; clear hb))
                      (go_roundw; (case rel => exact ⟨j + 1, by omega, by go_num, HXW.out.trans ((by (repeat' (first | with_reducible exact Below.refl _ _ | (with_reducible refine below_later_of ?_ ?_ _) | (with_reducible refine Below.alloc ?_ ?_ _) | (with_reducible refine Below.setCell ?_ ?_ _) | (with_reducible refine Below.drew ?_) | (simp; done) | (simp; omega) | omega)))), fun j' hj' => if e : j' = j then (by rw [e]; exact HC.out) else HY.out j' (by omega)⟩); (case measure => simp [intOf]; omega))
                    · have q23 : 0 < j := by omega
                      clear q2 q3
                      go_wp2_with (first | (go_at_call 122; (with_reducible refine (meets_any s o _ HFI.out HFJ.out hm.out).mono ?_); rintro e w' ⟨rfl, hb⟩; obtain ⟨pp, rfl⟩ := later_of_below hb; clear hb))
                      (go_roundw; (case rel => exact ⟨j + 1, by omega, by go_num, HXW.out.trans ((by (repeat' (first | with_reducible exact Below.refl _ _ | (with_reducible refine below_later_of ?_ ?_ _) | (with_reducible refine Below.alloc ?_ ?_ _) | (with_reducible refine Below.setCell ?_ ?_ _) | (with_reducible refine Below.drew ?_) | (simp; done) | (simp; omega) | omega)))), fun j' hj' => if e : j' = j then (by rw [e]; exact HC.out) else HY.out j' (by omega)⟩); (case measure => simp [intOf]; omega))
              · rw [hc] at HCL
                have HC := Lib.hid (show checkPolygonP ps = 13 by rw [HQ2.out, if_pos ⟨i, j, hil, hjl, hc⟩])
                clear hc HQ2
                have HR : Hid (∃ a b c d : Bool, hasP s o.x1 o.y1 = a ∧ hasP o s.x2 s.y2 = b ∧ hasP s o.x2 o.y2 = c ∧ hasP o s.x1 s.y1 = d ∧ (i = j + 1 → a = true ∨ (a = false ∧ b = true)) ∧ (¬ i = j + 1 → j = 0 ∧ i + 1 = ps.length → c = true ∨ (c = false ∧ d = true)) ∧ (¬ i = j + 1 → ¬ (j = 0 ∧ i + 1 = ps.length) → meetsP s o = true)) := by
                  refine Lib.hid ⟨_, _, _, _, rfl, rfl, rfl, rfl, fun h => ?_, fun h1 h2 => ?_, fun h1 h2 => ?_⟩
                  · have := HCL.out; rw [if_pos h] at this
                    cases h1 : hasP s o.x1 o.y1
                    · rw [h1] at this; exact Or.inr ⟨rfl, by simpa using this.symm⟩
                    · exact Or.inl rfl
                  · have := HCL.out; rw [if_neg h1, if_pos h2] at this
                    cases h3 : hasP s o.x2 o.y2
                    · rw [h3] at this; exact Or.inr ⟨rfl, by simpa using this.symm⟩
                    · exact Or.inl rfl
                  · have := HCL.out; rw [if_neg h1, if_neg h2] at this; exact this.symm
                obtain ⟨a, b', c', d', ha, hb, hcc, hd, k1, k2, k3⟩ := HR.out
                have HA := Lib.hid ha
                have HB1 := Lib.hid hb
                have HC1 := Lib.hid hcc
                have HD1 := Lib.hid hd
                clear HR ha hb hcc hd HCL
                by_cases q1 : i = j + 1
                · have q11 : i ≤ j + 1 := by omega
                  rcases k1 q1 with rfl | ⟨rfl, rfl⟩
                  · clear k1 k2 k3 q1
                    go_wp2_with (first | (go_at_call 121; (with_reducible refine (has_any s o.x1 o.y1 _ HFI.out OF1.out OF2.out HA.out).mono ?_); rintro e w' ⟨rfl, hb⟩; obtain ⟨pp, rfl⟩ := later_of_below hb; clear hb))
                    (go_ret; exact ⟨ret_int HC.out.symm, HB.out.trans ((HXI.out.trans (below_mono_of (by omega) ((by (repeat' (first | with_reducible exact Below.refl _ _ | (with_reducible refine below_later_of ?_ ?_ _) | (with_reducible refine Below.alloc ?_ ?_ _) | (with_reducible refine Below.setCell ?_ ?_ _) | (with_reducible refine Below.drew ?_) | (simp; done) | (simp; omega) | omega)))))).mono (by omega))⟩)
                  · clear k1 k2 k3 q1
                    go_wp2_with (first | (go_at_call 121; (with_reducible refine (has_any s o.x1 o.y1 _ HFI.out OF1.out OF2.out HA.out).mono ?_); rintro e w' ⟨rfl, hb⟩; obtain ⟨pp, rfl⟩ := later_of_below hb; clear hb) | (go_at_call 121; (with_reducible refine (has_any o s.x2 s.y2 _ HFJ.out SF3.out SF4.out HB1.out).mono ?_); rintro e w' ⟨rfl, hb⟩; obtain ⟨pp, rfl⟩ := later_of_below hb; clear hb))
                    (go_ret; exact ⟨ret_int HC.out.symm, HB.out.trans ((HXI.out.trans (below_mono_of (by omega) ((by (repeat' (first | with_reducible exact Below.refl _ _ | (with_reducible refine below_later_of ?_ ?_ _) | (with_reducible refine Below.alloc ?_ ?_ _) | (with_reducible refine Below.setCell ?_ ?_ _) | (with_reducible refine Below.drew ?_) | (simp; done) | (simp; omega) | omega)))))).mono (by omega))⟩)
                · by_cases q2 : j = 0 ∧ i + 1 = ps.length
                  · have q23 : j ≤ 0 := by omega
                    have q24 : ps.length ≤ i + 1 := by omega
                    have q11 : j + 1 < i := by omega
                    rcases k2 q1 q2 with rfl | ⟨rfl, rfl⟩
                    · clear k1 k2 k3 q1 q2
                      go_wp2_with (first | (go_at_call 121; (with_reducible refine (has_any s o.x2 o.y2 _ HFI.out OF3.out OF4.out HC1.out).mono ?_); rintro e w' ⟨rfl, hb⟩; obtain ⟨pp, rfl⟩ := later_of_below hb; clear hb))
                      (go_ret; exact ⟨ret_int HC.out.symm, HB.out.trans ((HXI.out.trans (below_mono_of (by omega) ((by (repeat' (first | with_reducible exact Below.refl _ _ | (with_reducible refine below_later_of ?_ ?_ _) | (with_reducible refine Below.alloc ?_ ?_ _) | (with_reducible refine Below.setCell ?_ ?_ _) | (with_reducible refine Below.drew ?_) | (simp; done) | (simp; omega) | omega)))))).mono (by omega))⟩)
                    · clear k1 k2 k3 q1 q2
                      go_wp2_with (first | (go_at_call 121; (with_reducible refine (has_any s o.x2 o.y2 _ HFI.out OF3.out OF4.out HC1.out).mono ?_); rintro e w' ⟨rfl, hb⟩; obtain ⟨pp, rfl⟩ := later_of_below hb; clear hb) | (go_at_call 121; (with_reducible refine (has_any o s.x1 s.y1 _ HFJ.out SF1.out SF2.out HD1.out).mono ?_); rintro e w' ⟨rfl, hb⟩; obtain ⟨pp, rfl⟩ := later_of_below hb; clear hb))
                      (go_ret; exact ⟨ret_int HC.out.symm, HB.out.trans ((HXI.out.trans (below_mono_of (by omega) ((by (repeat' (first | with_reducible exact Below.refl _ _ | (with_reducible refine below_later_of ?_ ?_ _) | (with_reducible refine Below.alloc ?_ ?_ _) | (with_reducible refine Below.setCell ?_ ?_ _) | (with_reducible refine Below.drew ?_) | (simp; done) | (simp; omega) | omega)))))).mono (by omega))⟩)
                  · have hm := Lib.hid (k3 q1 q2)
                    have q11 : j + 1 < i := by omega
                    clear k1 k2 k3 q1
                    by_cases q3 : j = 0
                    · have q23 : j ≤ 0 := by omega
                      have q24 : i + 1 < ps.length := by omega
                      clear q2 q3
                      go_wp2_with (first | (go_at_call 122; (with_reducible refine (meets_any s o _ HFI.out HFJ.out hm.out).mono ?_); rintro e w' ⟨rfl, hb⟩; obtain ⟨pp, rfl⟩ := later_of_below hb; clear hb))
                      (go_ret; exact ⟨ret_int HC.out.symm, HB.out.trans ((HXI.out.trans (below_mono_of (by omega) ((by (repeat' (first | with_reducible exact Below.refl _ _ | (with_reducible refine below_later_of ?_ ?_ _) | (with_reducible refine Below.alloc ?_ ?_ _) | (with_reducible refine Below.setCell ?_ ?_ _) | (with_reducible refine Below.drew ?_) | (simp; done) | (simp; omega) | omega)))))).mono (by omega))⟩)
                    · have q23 : 0 < j := by omega
                      clear q2 q3
                      go_wp2_with (first | (go_at_call 122; (with_reducible refine (meets_any s o _ HFI.out HFJ.out hm.out).mono ?_); rintro e w' ⟨rfl, hb⟩; obtain ⟨pp, rfl⟩ := later_of_below hb; clear hb))
                      (go_ret; exact ⟨ret_int HC.out.symm, HB.out.trans ((HXI.out.trans (below_mono_of (by omega) ((by (repeat' (first | with_reducible exact Below.refl _ _ | (with_reducible refine below_later_of ?_ ?_ _) | (with_reducible refine Below.alloc ?_ ?_ _) | (with_reducible refine Below.setCell ?_ ?_ _) | (with_reducible refine Below.drew ?_) | (simp; done) | (simp; omega) | omega)))))).mono (by omega))⟩)
            · have hji : i ≤ j := by omega
              go_wp2
              go_roundw
              case rel =>
                refine ⟨i + 1, by omega, by go_num, HXI.out, fun i' hi' j' hj' => ?_⟩
                by_cases e : i' = i
                · rw [e]; exact HY.out j' (by omega)
                · exact HZ.out i' (by omega) j' hj'
              case measure => simp [intOf]; omega
        · have hip : ps.length ≤ i := by omega
          go_wp2
          go_ret
          refine ⟨ret_int ?_, HB.out.trans (HX.out.mono (by omega))⟩
          rw [HQ2.out, if_neg]
          rintro ⟨i', j', h1, h2, h3⟩
          rw [HZ.out i' (by omega) j' h2] at h3
          cases h3
theorem checkPolygon_short (ps : List Plc) (v : Value) (cap : Nat) (a : Option Addr) (w : World) (h : ps.length < 3 ∨ 20 < ps.length) (hv : v = .slice a ps.length cap) (hm : ps.length ≤ 1000000000) :
    Calls Try.prog 51 #[v] w fun e w' => e = .returned (.int .i64 (checkPolygonP ps)) ∧ w = w' := by
  subst hv
  rcases h with h | h
  · have HQ := Lib.hid (show checkPolygonP ps = 10 by unfold checkPolygonP; rw [if_pos h])
    go_enter Try.func51, Try.ntmps51
    go_wp2
    go_ret
    exact ⟨ret_int HQ.out.symm, rfl⟩
  · have HQ := Lib.hid (show checkPolygonP ps = 8 by unfold checkPolygonP; rw [if_neg (by omega), if_pos h])
    go_enter Try.func51, Try.ntmps51
    go_wp2
    go_ret
    exact ⟨ret_int HQ.out.symm, rfl⟩
end Go.Proofs.Ythnfepfbkmafaaa
