/- Chapter 1: Gaps. -/
import Derived.Test.YtakohhlmomgegaaDoorU108
namespace Go.Proofs.YtakohhlmomgegaaDoor
set_option linter.unusedVariables false
set_option linter.unusedSimpArgs false
open Go Go.RowKit Go.Sort Ntt
theorem any_world9 {G : World → Prop} {w : World} (F : World → Prop) (hf : F w) (h : ∀ W, F W → G W) : G w := h w hf
theorem bx_new {W : World} {k : Nat} {t : TypeId} {v : Value} (h : k = W.heap.size) : Boxed (W.alloc (.cells #[v] t)) k t v := by subst h; exact Boxed.new W t v
set_option maxHeartbeats 1000000 in
theorem gaps_bad (L S : Int) (n cap : Nat) (f : Nat → Nat × Nat) (a : Option Addr) (w : World) (hn : n ≤ 100000) (hd : DataAt w L S n f a) {e0 : Int} (he : (imgE L S n f).2 = e0) (h0 : e0 ≠ 0) :
    Calls Tryd.prog 55 #[.agg #[.int .i64 L, .int .i64 S, .slice a n cap]] w fun e w' => e = .returned (.tuple #[.slice none 0 0, .int .i64 e0]) ∧ Below w.heap.size w w' := by
  have HIE := Lib.hid (show ∀ W, Below w.heap.size w W → _ from fun W hW => imageErr_any L S n cap f a W hn (hd.below hW) he)
  have hne : (e0 != 0) = true := by simpa using h0
  clear hd he h0
  refine callsIn_wide.1 (callsIn_of_wp_marks (F := Fence.wide) (n := 9) Tryd.func55 rfl trivial (wpIn_wide.2 ?_) rfl)
  simp only [Tryd.ntmps55, List.size_toArray, List.length_cons, List.length_nil, Nat.reduceAdd, Nat.reduceSub, Array.replicate_succ, Array.replicate_zero, List.push_toArray, List.append_toArray, List.nil_append, List.cons_append]
  go_wp2_with (first | (go_at_call 78; (with_reducible refine (HIE.out _ (by (repeat' (first | with_reducible exact Below.refl _ _ | (with_reducible refine below_later_of ?_ ?_ _) | (with_reducible refine Below.alloc ?_ ?_ _) | (with_reducible refine Below.setCell ?_ ?_ _) | (with_reducible refine Below.drew ?_) | (simp; done) | (simp; omega) | omega)))).mono ?_); rintro e w' ⟨rfl, hb⟩; obtain ⟨pe, rfl⟩ := later_of_below hb; clear hb))
  refine ⟨_, ?_, rfl, (by (repeat' (first | with_reducible exact Below.refl _ _ | (with_reducible refine below_later_of ?_ ?_ _) | (with_reducible refine Below.alloc ?_ ?_ _) | (with_reducible refine Below.setCell ?_ ?_ _) | (with_reducible refine Below.drew ?_) | (simp; done) | (simp; omega) | omega)))⟩
  simp [results, Tryd.results55, go_sem]
set_option maxRecDepth 20000 in
set_option maxHeartbeats 4000000 in
theorem gaps_ok (L S n cap b off : Nat) (f : Nat → Nat × Nat) (w : World) (hcn : n ≤ cap) (hbw : b < w.heap.size) (hs : SamplesAt w b off n f) (he : (imgE L S n f).2 = 0) :
    Calls Tryd.prog 55 #[.agg #[.int .i64 L, .int .i64 S, .slice (some ⟨b, off, none⟩) n cap]] w fun e w' => ∃ v, e = .returned (.tuple #[v, .int .i64 0]) ∧ RgV w' v (gapsP (emB f S) L) ∧ Below w.heap.size w w' := by
  obtain ⟨⟨l1, l2⟩, ⟨s1, s2⟩, hn⟩ := sizeE_zero (imgE_zero he).1
  have hn' : n = L * S := by exact_mod_cast hn
  have l1' : 1 ≤ L := by omega
  have l2' : L ≤ 64 := by omega
  have s1' : 1 ≤ S := by omega
  have s2' : S ≤ 64 := by omega
  have hn4 := imgE_small he
  have HIE := Lib.hid (show ∀ W, Below w.heap.size w W → _ from fun W hW => imageErr_any L S n cap f (some ⟨b, off, none⟩) W (by omega) (fun _ => ⟨b, off, rfl, by have := hW.size; omega, hs.below hbw hW⟩) he)
  have HS := Lib.hid hs
  have HN := Lib.hid hn'
  clear hs he hn hn' l1 l2 s1 s2
  refine callsIn_wide.1 (callsIn_of_wp_marks (F := Fence.wide) (n := 9) Tryd.func55 rfl trivial (wpIn_wide.2 ?_) rfl)
  simp only [Tryd.ntmps55, List.size_toArray, List.length_cons, List.length_nil, Nat.reduceAdd, Nat.reduceSub, Array.replicate_succ, Array.replicate_zero, List.push_toArray, List.append_toArray, List.nil_append, List.cons_append]
  go_upto_region 6 with (first | (go_at_call 78; (with_reducible refine (HIE.out _ (by (repeat' (first | with_reducible exact Below.refl _ _ | (with_reducible refine below_later_of ?_ ?_ _) | (with_reducible refine Below.alloc ?_ ?_ _) | (with_reducible refine Below.setCell ?_ ?_ _) | (with_reducible refine Below.drew ?_) | (simp; done) | (simp; omega) | omega)))).mono ?_); rintro e w' ⟨rfl, hb⟩; obtain ⟨pe, rfl⟩ := later_of_below hb; clear hb))
  obtain ⟨Ob, hOb⟩ : ∃ Ob, Ob = w.heap.size + 1 + pe.os.size := ⟨_, rfl⟩
  refine any_world9 (fun W => ImgBlk W w.heap.size L S (some ⟨b, off, none⟩) n cap ∧ Boxed W Ob 87 (.slice none 0 0) ∧ Boxed W (Ob + 1) 3 (.int .i64 (-1)) ∧ Below w.heap.size w W ∧ W.heap.size = Ob + 2) ⟨⟨(by (first | (simp [go_sem]; done) | simp [go_sem, ↓IntWalk.iteOmega])), (by (first | (simp [go_sem]; done) | simp [go_sem, ↓IntWalk.iteOmega])), (by (first | (simp [go_sem]; done) | simp [go_sem, ↓IntWalk.iteOmega]))⟩, (bx_new (by simp; omega)).alloc _, bx_new (by simp; omega), (by (repeat' (first | with_reducible exact Below.refl _ _ | (with_reducible refine below_later_of ?_ ?_ _) | (with_reducible refine Below.alloc ?_ ?_ _) | (with_reducible refine Below.setCell ?_ ?_ _) | (with_reducible refine Below.drew ?_) | (simp; done) | (simp; omega) | omega))), by simp; omega⟩ ?_
  rintro W3 ⟨⟨k0, k1, k2⟩, hbo, hbn, hb3, hs3⟩
  simp only [← hOb]
  have hwO : w.heap.size < Ob := by omega
  have hwW3 : w.heap.size < W3.heap.size := by omega
  have HBO := Lib.hid hbo
  have HBN := Lib.hid hbn
  have HB3 := Lib.hid hb3
  have HS3 := Lib.hid hs3
  clear hbo hbn hb3 hs3 hOb
  go_wp2_with (first | (go_at_call 112; (with_reducible refine (chunk_any _ _ _ _ _ (by omega)).mono ?_); rintro e w5 ⟨rfl, hck, hsz, hb⟩; have HCH := Lib.hid hck; have HSZ := Lib.hid hsz; have HB5 := Lib.hid hb; clear hck hsz hb))
  obtain ⟨q1, q2⟩ := HCH.out
  have hb5 := HB5.out
  have hsz5 : W3.heap.size + 1 < w5.heap.size := by have := HSZ.out; omega
  have hs3 : Ob + 1 < W3.heap.size := by have := HS3.out; omega
  have HGL := Lib.hid (show GLoop w w5 Ob (Ob + 1) b off n cap S W3.heap.size (W3.heap.size + 1) 0 (gapsP (emB f S) 0) w5 from
    ⟨HB3.out.trans (hb5.mono (by omega)), Nat.le_refl _, (hb5.block _ (by omega)).trans HBN.out, ⟨_, (hb5.block _ (by omega)).trans HBO.out, World.ownsRow_nil _ _ _ _⟩, q1, q2⟩)
  have o1 : Ob < w5.heap.size := by omega
  have o2 : Ob + 1 < w5.heap.size := by omega
  have o3 : W3.heap.size < w5.heap.size := by omega
  have o4 : W3.heap.size + 1 < w5.heap.size := by omega
  have o5 : w.heap.size ≤ w5.heap.size := by omega
  clear q1 q2 hb5 HCH HSZ HB5 k0 k1 k2
  refine wpIn_wide.1 (wpIn_rangeCapT 109 (ChunkS W3.heap.size (W3.heap.size + 1) b off n cap S) (n := 9) rfl (by omega) (gf := 141) (cap := #[.pointer (some ⟨W3.heap.size, 0, none⟩), .pointer (some ⟨W3.heap.size + 1, 0, none⟩)]) rfl trivial (enters_of Tryd.func141 (by kernel_rfl) rfl) (N := L) (enc := encL b off S) (fun k => rfl)
    (fun W _ => chunk_iter 109 8 (by omega) W3.heap.size (W3.heap.size + 1) b off n cap L S HN.out hcn l1' l2' s1' s2' W)
    (fun k W => GLoop w w5 Ob (Ob + 1) b off n cap S W3.heap.size (W3.heap.size + 1) k (gapsP (emB f S) k) W)
    (fun _ _ => False)
    (fun k W1 W2 h hb hc => h.keep o5 hb hc)
    (fun c W1 W2 h hb hc => h)
    (fun k W h => h.chk)
    HGL.out
    (fun T k => (T.setIfInBounds 19 (.slice (some ⟨b, off + k * S, none⟩) S S)).setIfInBounds 7 (.slice (some ⟨b, off + k * S, none⟩) S S))
    ?assign ?body ?done ?stop)
  case assign =>
    intro l k W K hK
    simp only [encL]
    simp only [List.setIfInBounds_toArray, List.set_cons_succ, List.set_cons_zero] at hK
    gi_wp2
    exact hK
  case body =>
    rintro l k W hgl hkN hWs
    have hkS : k * S + S ≤ n := by
      have h1 : (k + 1) * S ≤ L * S := Nat.mul_le_mul_right _ hkN
      rw [Nat.add_mul, Nat.one_mul] at h1
      have := HN.out
      omega
    exact gapsBody _ (by kernel_rfl) S n cap b off Ob (Ob + 1) W3.heap.size (W3.heap.size + 1) k 5 l f w w5 W _ _ hkS s1' s2' (by omega) hbw (by omega) (by omega) o1 o2 (by omega) o3 o4 (by omega) (by omega) (by omega) (by omega) HS.out hgl (fun W' h => h) _ _ _ _ _ _ _ _ _ _ _ _ _ _ _ _ _ _ _ _ _ _ _ _ _ _ _ _ _ _ _ _ _ _ _ _ _ _ _ _ _ _ _ _ _ _ _ _ _
  case done =>
    rintro W hgl hD
    obtain ⟨val, hbx, hown⟩ := hgl.own
    obtain ⟨e5, f5⟩ := cell_bx hbx
    have HB := Lib.hid hgl.bel
    have HDD := Lib.hid hD
    have hlen := gapsP_len (emB f S) L
    have HR := Lib.hid (show RgV (W.putObj w5.heap.size (.deferred none)) val (gapsP (emB f S) L) from rgV_own (ownsRow_putObj hown _ hD rfl) (by omega))
    clear hgl hD hbx hown
    go_wp2_with fail
    refine ⟨by simp, .inl ⟨_, _, rfl, run_takeDeferred HDD.out, ?_⟩⟩
    have hb : Below w5.heap.size W (W.putObj w5.heap.size (.deferred none)) := below_putObj (Nat.le_refl _) _
    refine ⟨_, ?_, val, rfl, HR.out, HB.out.trans (hb.mono (by omega))⟩
    simp [results, Tryd.results55, go_sem]
  case stop =>
    rintro c W h hD
    exact h.elim
end Go.Proofs.YtakohhlmomgegaaDoor
