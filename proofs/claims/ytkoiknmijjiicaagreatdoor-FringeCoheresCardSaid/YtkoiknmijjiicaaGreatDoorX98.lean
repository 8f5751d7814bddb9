/- Chapter 4: grids of floats. -/
import Derived.Test.YtkoiknmijjiicaaGreatDoorXM
import Derived.Test.YtkoiknmijjiicaaGreatDoorXB
namespace Go.Proofs.YtkoiknmijjiicaaGreatDoor
set_option linter.unusedVariables false
set_option linter.unusedSimpArgs false
open Go.RowKit Ieee Ntt
def fcC (F : Nat → Nat) (n : Nat) : List Value := (List.range n).map fun i => .float .f32 (F i)
theorem fcC_succ (F : Nat → Nat) (n : Nat) : fcC F (n + 1) = fcC F n ++ [.float .f32 (F n)] := by unfold fcC; rw [List.range_succ, List.map_append]; rfl
/-- A grid of integers that is returned. -/
def GfPost (L S n : Nat) (F : Nat → Nat) (w : World) (e : Ending) (w' : World) : Prop :=
  ∃ a c, e = .returned (.agg #[.int .i64 L, .int .i64 S, .slice a n c]) ∧ OwnFV w.heap.size w' (.slice a n c) ((List.range n).map F) ∧ Below w.heap.size w w'
theorem sfR_own {W : World} {base n c : Nat} {a : Option Addr} {l : List Nat} (h : W.ownsRow base 72 1 (.slice a n c) n (l.map (.float .f32))) (hl : l.length = n) (hn : n ≤ 1000000000) : OwnFV base W (.slice a n c) l := by
  by_cases h0 : 0 < n
  · obtain ⟨g, c', he⟩ := row_slice h h0
    rw [he] at h ⊢
    exact ownFV_own h hn
  · obtain rfl : n = 0 := by omega
    obtain rfl : l = [] := List.length_eq_zero_iff.1 hl
    exact ⟨by simp, a, c, rfl, fun h => absurd h (by simp)⟩
set_option maxRecDepth 20000 in
set_option maxHeartbeats 4000000 in
theorem mapped_f (L S : Nat) (gf : FuncId) (cap : Array Value) (F : Nat → Nat) (w : World) (hL : L ≤ 64) (hS : S ≤ 64) (eg : ∀ args w, (callFunc gf args).run Tryz.prog w = .ok (.enter gf args) w)
    (hc : ∀ W, Below w.heap.size w W → ∀ l s : Nat, l < L → s < S → Calls Tryz.prog gf (#[.int .i64 l, .int .i64 s] ++ cap) W fun e w' => e = .returned (.float .f32 (F (l * S + s))) ∧ Below W.heap.size W w') :
    Calls Tryz.prog 39 #[.int .i64 L, .int .i64 S, .func (.func gf) #[] cap] w (GfPost L S (L * S) F w) := by
  obtain ⟨i0, hi0, hz0, hz1, hz2⟩ := info_parts infoF72
  have HC := Lib.hid hc
  clear hc
  go_enter Tryz.func39, Tryz.ntmps39
  go_wp2
  refine wp_worldG (fun W => TriN w w.heap.size (w.heap.size + 1) L S 72 1 (.slice none 0 0) 0 (fcC F 0) W)
    ⟨by simp [go_sem], by simp [go_sem], by simp [go_sem], by simp [go_sem], by simp [go_sem], by simp [go_sem], by simp [go_sem], by simp [go_sem], by simp [go_sem], by simp [go_sem], World.ownsRow_nil _ _ _ _, (by (repeat' (first | with_reducible exact Below.refl _ _ | (with_reducible refine below_later_of ?_ ?_ _) | (with_reducible refine Below.alloc ?_ ?_ _) | (with_reducible refine Below.setCell ?_ ?_ _) | (with_reducible refine Below.drew ?_) | (simp; done) | (simp; omega) | omega))), by simp, by omega⟩ ?_
  rintro W2 hst
  have HST := Lib.hid hst
  clear hst
  go_loopw [14] (fun i wr => ∃ (l : Nat) (v : Value), l ≤ L ∧ i = .int .i64 l ∧ TriN w w.heap.size (w.heap.size + 1) L S 72 1 v (l * S) (fcC F (l * S)) wr) (fun i _ => L - (intOf i).toNat)
  case atStart => exact ⟨0, _, Nat.zero_le _, rfl, by rw [Nat.zero_mul]; exact HST.out⟩
  case round =>
    obtain ⟨l, v, hl, rfl, hst⟩ := hrel
    have HS1 := Lib.hid hst
    by_cases hlt : l < L
    · have hdl : decide ((l : Int) < (L : Int)) = true := by simp; omega
      clear hst
      go_wp2
      go_loopw [18] (fun i wr => ∃ (s : Nat) (v : Value), s ≤ S ∧ i = .int .i64 s ∧ TriN w w.heap.size (w.heap.size + 1) L S 72 1 v (l * S + s) (fcC F (l * S + s)) wr) (fun i _ => S - (intOf i).toNat)
      case atStart => exact ⟨0, v, Nat.zero_le _, rfl, HS1.out⟩
      case round =>
        obtain ⟨s, v, hs, rfl, hst⟩ := hrel
        by_cases hst2 : s < S
        · have hds : decide ((s : Int) < (S : Int)) = true := by simp; omega
          have HCL := Lib.hid (show ∀ W, Below wr.heap.size wr W → _ from fun W hW => HC.out W (hst.bel.trans (hW.mono hst.bel.size)) l s hlt hst2)
          obtain ⟨i, hi⟩ : ∃ i, l * S + s = i := ⟨_, rfl⟩
          have hin : i ≤ 5000 := by
            have h1 : l * S ≤ 64 * 64 := Nat.mul_le_mul (by omega) hS
            omega
          have HI := Lib.hid hi
          rw [hi] at hst HCL
          have HS2 := Lib.hid hst
          have HPN := Lib.hid (fcC_succ F i)
          obtain ⟨x, hx⟩ : ∃ x, F i = x := ⟨_, rfl⟩
          rw [hx] at HCL HPN
          have c2 := hst.c2
          have f2 := hst.f2
          have hltO := hst.lt
          clear hst hi hx
          go_wp2_with fail
          go_region_law (first | (refine step_append_lies _ rfl (.tmp 22) (.tmp 27) 22 rfl (w.heap.size + 1 + 1) 72 i0 (.float .f32 0) 1 4 Tryz.underlying22 hi0 hz0 hz1 hz2 rfl (by decide) v i (fcC F i) (by simp [Act.eval, Act.put]) (HSW.out.own.alloc _) ⟨wc.heap.size, 0, none⟩ 1 1 [.float .f32 x] (by simp [Act.eval, Act.put]) rfl (by intro j u hj; rcases j with _ | j; (focus (simp at hj; subst hj; (first | (simp [Addr.add, go_sem]; done) | simp [Addr.add, go_sem, ↓IntWalk.iteOmega]))); (focus (simp at hj))) (by intro u hu; simp at hu; subst hu; rfl) (by decide) (by unfold maxLen; omega) (by omega) (by first | omega | (simp; omega)) _ rfl ?_; intro g' cc' w1 hown' hgrow _ _; have HN2 := Lib.hid (HSW.out.put hown' hgrow); obtain ⟨hcb, hfb⟩ := HSW.out.still hgrow; clear hown' hgrow) | (go_simp; (go_at_fn gf; (with_reducible refine (HCL.out _ (by (repeat' (first | with_reducible exact Below.refl _ _ | (with_reducible refine below_later_of ?_ ?_ _) | (with_reducible refine Below.alloc ?_ ?_ _) | (with_reducible refine Below.setCell ?_ ?_ _) | (with_reducible refine Below.drew ?_) | (simp; done) | (simp; omega) | omega)))).mono ?_); rintro e wc ⟨rfl, hb⟩; have HSW := Lib.hid ((HS2.out.below (Below.refl _ _).drew).below hb); have c2w := HSW.out.c2; have f2w := HSW.out.f2; have hltw := HSW.out.lt; clear hb)))
          all_goals
            go_wp2
            go_roundw
            case rel => exact ⟨s + 1, _, by omega, by go_num, by rw [← Nat.add_assoc, HI.out, HPN.out]; exact HN2.out⟩
            case measure => simp [intOf]; omega
        · obtain rfl : s = S := by omega
          have hds : decide ((s : Int) < (s : Int)) = false := by simp
          have HSE := Lib.hid hst
          clear hst
          go_wp2
          go_roundw
          case rel => exact ⟨l + 1, v, by omega, by go_num, by rw [Nat.add_mul, Nat.one_mul]; exact HSE.out⟩
          case measure => simp [intOf]; omega
    · obtain rfl : l = L := by omega
      have hdl : decide ((l : Int) < (l : Int)) = false := by simp
      obtain ⟨a', c', rfl⟩ := own_slice2 hst.own
      obtain ⟨e0, e1, e2, -, r0, r1, r2, g0, g1, g2, hown, hbel, -, -⟩ := hst
      have HOW := Lib.hid hown
      have HBE := Lib.hid hbel
      clear hown hbel
      go_wp2
      refine bodyPost_ret ?_ rfl ⟨a', c', rfl, OwnFV.mono (OwnFV.set (OwnFV.set (OwnFV.set (sfR_own (l := (List.range (l * S)).map F) (by rw [List.map_map]; exact HOW.out) (by simp) (by have := Nat.mul_le_mul hL hS; omega)) ?_ _) ?_ _) ?_ _) ?_, HBE.out.trans (by (repeat' (first | with_reducible exact Below.refl _ _ | (with_reducible refine below_later_of ?_ ?_ _) | (with_reducible refine Below.alloc ?_ ?_ _) | (with_reducible refine Below.setCell ?_ ?_ _) | (with_reducible refine Below.drew ?_) | (simp; done) | (simp; omega) | omega)))⟩
      · first | (simp [results, Tryz.results39, go_sem, r0, r1, r2]; done) | simp [results, Tryz.results39, go_sem, r0, r1, r2, ↓IntWalk.iteOmega]
      all_goals first | omega | (simp <;> omega)
end Go.Proofs.YtkoiknmijjiicaaGreatDoor
