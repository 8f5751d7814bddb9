/- Chapter 1: EchoByTransforms: lists of 64 numbers, and the line's compression, as contracts. -/
import Derived.Test.YtakohhlmomgegaaDoorQ22
import Derived.Test.YtakohhlmomgegaaDoorU92
namespace Go.Proofs.YtakohhlmomgegaaDoor
set_option linter.unusedVariables false
set_option linter.unusedSimpArgs false
open Go.RowKit Ntt
def L64 (xs : List Int) (w : World) (e : Ending) (w' : World) : Prop :=
  ∃ a c, e = .returned (.tuple #[.slice a 64 c, .int .i64 0]) ∧ IntsV w' (.slice a 64 c) xs ∧ Below w.heap.size w w'
theorem copy64 {xs : List Int} (hl : xs.length = 64) (v : Value) (w : World) (hv : IntsV w v xs) : Calls Tryd.prog 32 #[v] w fun e w' => ∃ a c, e = .returned (.slice a 64 c) ∧ IntsV w' (.slice a 64 c) xs ∧ Below w.heap.size w w' := by
  refine (copyInts_any xs v w hv).mono ?_
  rintro e w' ⟨a, c, rfl, h1, h2⟩
  rw [hl] at h1 ⊢
  exact ⟨a, c, rfl, h1, h2⟩
theorem l64_of {xs ys : List Int} (hl : ys.length = 64) {w : World} {e : Ending} {w' : World} (h : LiPost ys w e w') : L64 ys w e w' := by
  obtain ⟨a, c, rfl, h1, h2⟩ := h
  rw [hl] at h1 ⊢
  exact ⟨a, c, rfl, h1, h2⟩
theorem trans64 {xs : List Int} (hl : xs.length = 64) (he : listE xs = 0) (v : Value) (w : World) (hv : IntsV w v xs) : Calls Tryd.prog 36 #[v] w (L64 (trL 6 xs) w) :=
  (transform_list 6 (by decide) xs v w (by rw [hl]) hv he).mono fun _ _ h => l64_of (xs := xs) (by rw [trL_len, hl]) h
theorem inv64 {xs : List Int} (hl : xs.length = 64) (he : listE xs = 0) (v : Value) (w : World) (hv : IntsV w v (trL 6 xs)) : Calls Tryd.prog 37 #[v] w (L64 xs w) := by
  refine (inverse_list 6 (by decide) (trL 6 xs) v w (by rw [trL_len, hl]) hv (trL_ok (by rw [hl]) he)).mono fun e w' h => ?_
  rw [bk_tr (by decide) (by rw [hl]) he] at h
  exact l64_of (xs := xs) hl h
theorem corr64 {xs ys : List Int} (hl : xs.length = 64) (hk : ys.length = 64) (he : listE xs = 0) (he2 : listE ys = 0) (v u : Value) (w : World) (hv : IntsV w v xs) (hu : IntsV w u ys) : Calls Tryd.prog 31 #[v, u] w (L64 (crL xs ys) w) :=
  (correlate_list 6 (by decide) xs ys v u w (by rw [hl]) (by rw [hl, hk]) hv hu he he2).mono fun _ _ h => l64_of (xs := xs) (by rw [crL_len, hl]) h
def BtPost (N : Nat) (F : Nat → Nat × Nat) (w : World) (e : Ending) (w' : World) : Prop :=
  ∃ a c, e = .returned (.tuple #[.agg #[.int .i64 1, .int .i64 N, .slice a N c], .int .i64 0]) ∧ OwnS w' w.heap.size N F a ∧ Below w.heap.size w w'
theorem compress_line {X U : Nat → Int} (hX : ∀ j, -2047 ≤ X j ∧ X j ≤ 2047) (hU : ∀ j, -3 ≤ U j ∧ U j ≤ 3) {n m N : Nat} (h1 : 1 ≤ n) (h2 : n ≤ 40) (h3 : m ≤ 20) (hm : m ≤ n) (hN : n + 1 - m = N) {j : Nat} (hj : j < m) (h0 : U j ≠ 0) (cX cU : Nat) (a ca : Option Addr) (w : World)
    (hd : DataAt w 1 n n (sF X) a) (hc : CodeAt w m (sF U) ca) :
    Calls Tryd.prog 21 #[.agg #[.int .i64 1, .int .i64 n, .slice a n cX], .slice ca m cU] w (BtPost N (fun s => (f64I (linP X U m s), f64I 0)) w) := by
  have he : first2 (imgE ((1 : Nat) : Int) n n (sF X)).2 (codeE m (sF U)).2 = 0 := by
    rw [show ((1 : Nat) : Int) = 1 from rfl, sF_img hX h1 (by omega), sF_code hU (by omega) (by omega) hj h0]
    rfl
  have hb3 : ∀ j, -2047 ≤ U j ∧ U j ≤ 2047 := fun j => by have := hU j; omega
  refine (compress_ok 1 n n cX m cU (sF X) (sF U) a ca w (by omega) (by omega) hd hc he hm).mono ?_
  rintro e w' ⟨a1, c1, D, rfl, hD, hok, hfa, hb⟩
  rw [Nat.one_mul, hN] at hD
  rw [hD, hN]
  refine ⟨a1, c1, rfl, OwnS.of hfa hD fun i z hz => ?_, hb⟩
  have b := hok i z hz
  have hi : i < N := by
    have := (List.getElem?_eq_some_iff.1 hz).1
    omega
  have e2 : z = compB X (fun _ => 0) U (fun _ => 0) N n m i := by
    have h : z = compB (xB (sF X)) (yB (sF X)) (xB (sF U)) (yB (sF U)) (n + 1 - m) n m i := Prod.ext b.re b.im
    rw [hN, (sF_parts hX).1, (sF_parts hX).2, (sF_parts hb3).1, (sF_parts hb3).2] at h
    exact h
  rw [e2, compB_line hi]
theorem intsV_own64 {W : World} {g c : Nat} {xs : List Int} (h : OwnF W g 64 (intAt xs)) (hl : xs.length = 64) : IntsV W (.slice (some ⟨g, 0, none⟩) 64 c) xs :=
  ⟨by omega, some ⟨g, 0, none⟩, c, by rw [hl], fun _ => ⟨g, 0, rfl, h.1.1, fun k hk => by rw [Nat.zero_add]; exact h.1.2 k (by omega)⟩⟩
theorem intsV_at {W : World} {g c : Nat} {xs : List Int} (hl : xs.length = 64) (hg : g < W.heap.size) (h : ∀ k, k < 64 → W.cell? ⟨g, k, none⟩ = some (.int .i64 (intAt xs k))) : IntsV W (.slice (some ⟨g, 0, none⟩) 64 c) xs :=
  ⟨by omega, some ⟨g, 0, none⟩, c, by rw [hl], fun _ => ⟨g, 0, rfl, hg, fun k hk => by rw [Nat.zero_add]; exact h k (by omega)⟩⟩
/-- What stands after the two loops. -/
theorem after_loops {w W5 wr : World} {g h O n m : Nat} {X U : Nat → Int} {aX aU : Option Addr} {cX cU : Nat} (hn : 1 ≤ n) (hn2 : n ≤ 64) (hm2 : m ≤ 64) (s5 : LinSt w g h O n (fillP X n) (fun _ => 0) (.slice aX n cX) (csF (sF X) n) W5)
    (s : CodSt w W5 h (fillP U m) (.slice aU m cU) (csF (sF U) m) wr) :
    DataAt wr 1 n n (sF X) aX ∧ CodeAt wr m (sF U) aU ∧ IntsV wr (.slice (some ⟨g, 0, none⟩) 64 64) (padL X n) ∧ IntsV wr (.slice (some ⟨h, 0, none⟩) 64 64) (padL U m) ∧
    wr.cell? ⟨O, 0, none⟩ = some (.int .i64 1) ∧ wr.cell? ⟨O, 1, none⟩ = some (.int .i64 n) ∧ wr.cell? ⟨O, 2, none⟩ = some (.slice aX n cX) ∧ O < wr.heap.size := by
  have ho1 := s5.own
  rw [csF_len] at ho1
  have ho2 := s.own
  rw [csF_len] at ho2
  have hbo := s5.bo
  have hao := s5.ao
  have hlt := s5.lt
  have hsz := s.siz
  refine ⟨fun _ => ?_, fun h0 => ?_, intsV_at (padL_len X n) (by omega) fun k hk => ?_, intsV_at (padL_len U m) (by omega) fun k hk => ?_, ?_, ?_, ?_, by omega⟩
  · obtain ⟨q, e1, e2, e3, e4⟩ := ownC_row ho1 hn
    exact ⟨q, 0, e1, by omega, fun k hk => (s.kept ⟨q, 0 + k, none⟩ e3 (show q ≠ h by omega)).trans (e4 k hk)⟩
  · obtain ⟨q, e1, e2, e3, e4⟩ := ownC_row ho2 h0
    exact ⟨q, 0, e1, e3, e4⟩
  · rw [padL_at X hn2]
    exact (s.kept ⟨g, k, none⟩ (show g < _ by omega) s5.ab).trans (s5.oa.1.2 k hk)
  · rw [padL_at U hm2]
    exact s.ob.1.2 k hk
  · exact (s.kept ⟨O, 0, none⟩ hlt (show O ≠ h by omega)).trans s5.c0
  · exact (s.kept ⟨O, 1, none⟩ hlt (show O ≠ h by omega)).trans s5.c1
  · exact (s.kept ⟨O, 2, none⟩ hlt (show O ≠ h by omega)).trans s5.c2
end Go.Proofs.YtakohhlmomgegaaDoor
