/- Chapter 1: base.Cut. -/
import Derived.Test.YtkoiknmijjiicaaGreatDoorU119
import Derived.OwnWalk
import Derived.Maps.AppendAt
namespace Go.Proofs.YtkoiknmijjiicaaGreatDoor
set_option linter.unusedVariables false
set_option linter.unusedSimpArgs false
open Go.RowKit Go
/-- Texts as cells. -/
def strC (ws : List ByteArray) : List Value := ws.map .string
theorem infoStr : (Tryz.prog.info? 9).map (fun i => (i.zero, i.size, i.bytes)) = some (some (.string ⟨#[]⟩), 1, 16) := by kernel_rfl
theorem strC_snoc (ws : List ByteArray) (s : ByteArray) : strC (ws ++ [s]) = strC ws ++ [.string s] := by unfold strC; rw [List.map_append]; rfl
/-- The pieces of the first bytes, and where the next one begins. -/
def cutSt (B : ByteArray) (c : Nat) : Nat → List ByteArray × Nat
  | 0 => ([], 0)
  | i + 1 => if byteAt B i = c then ((cutSt B c i).1 ++ [B.extract (cutSt B c i).2 i], i + 1) else cutSt B c i
/-- What base.Cut answers. -/
def cutW (B : ByteArray) (c : Nat) : List ByteArray := (cutSt B c B.size).1 ++ [B.extract (cutSt B c B.size).2 B.size]
theorem cutSt_le (B : ByteArray) (c : Nat) : ∀ i, (cutSt B c i).2 ≤ i ∧ (cutSt B c i).1.length ≤ i
  | 0 => ⟨Nat.le_refl _, Nat.le_refl _⟩
  | i + 1 => by
    have := cutSt_le B c i
    unfold cutSt
    split
    · refine ⟨Nat.le_refl _, ?_⟩
      rw [List.length_append]; simp; omega
    · omega
/-- A row of texts of one's own. -/
def StrR (O : Nat) (w : World) (ws : List ByteArray) (v : Value) (wr : World) : Prop := wr.ownsRow O 9 1 v ws.length (strC ws) ∧ Below O w wr
theorem cells_str (w : World) (x : Value) (T : TypeId) (j : Nat) (u : Value) (h : [x][j]? = some u) : (w.alloc (.cells #[x] T)).cell? ((⟨w.heap.size, 0, none⟩ : Addr).add j) = some u := by
  have : (⟨w.heap.size, 0, none⟩ : Addr).add j = ⟨w.heap.size, j, none⟩ := by simp [Addr.add]; omega
  rw [this, World.cell?_alloc_new]
  simpa using h
theorem strR_put {O : Nat} {w wr w1 : World} {ws : List ByteArray} {v v' : Value} {s : ByteArray} {o : Obj} (h : StrR O w ws v wr) (hB : O ≤ wr.heap.size) {m : Nat} (hm : ws.length = m) (ho : w1.ownsRow O 9 1 v' (m + 1) (strC ws ++ [.string s])) (hg : (wr.alloc o).grownBy w1 v.ownBlock) : StrR O w (ws ++ [s]) v' w1 := by
  subst hm
  refine ⟨?_, h.2.trans ((((Below.refl O wr).alloc hB o)).grown hg (by simp; omega) (fun g hg => (h.1.lt g hg).1))⟩
  rw [strC_snoc, List.length_append]
  exact ho
theorem strR_slice {O : Nat} {w wr : World} {ws : List ByteArray} {v : Value} (h : StrR O w ws v wr) : ∃ a c, v = .slice a ws.length c := by
  obtain ⟨-, ⟨rfl, h1⟩ | ⟨g, cap, cur, rfl, h2, h3, -⟩⟩ := h.1
  · exact ⟨none, 0, by rw [h1]⟩
  · exact ⟨_, cap, rfl⟩
set_option maxRecDepth 20000 in
set_option maxHeartbeats 2000000 in
theorem cut_any (B : ByteArray) (c : Nat) (w : World) (hB : B.size ≤ 4294967296) :
    Calls Tryz.prog 59 #[.string B, .int .u8 c] w fun e w' => ∃ v, e = .returned v ∧ StrR w.heap.size w (cutW B c) v w' := by
  obtain ⟨i0, hi0, hz0, hz1, hz2⟩ := info_parts infoStr
  obtain ⟨n, hn⟩ : ∃ n, B.size = n := ⟨_, rfl⟩
  go_enter Tryz.func59, Tryz.ntmps59
  go_wp2
  go_loopw [5, 6, 7] (fun v p i wr => ∃ k : Nat, k ≤ n ∧ i = .int .i64 k ∧ p = .int .i64 (cutSt B c k).2 ∧ StrR w.heap.size w (cutSt B c k).1 v wr) (fun _ _ i _ => n - (intOf i).toNat)
  case atStart => exact ⟨0, Nat.zero_le _, rfl, rfl, World.ownsRow_nil _ _ _ _, Below.refl _ _⟩
  case round =>
    obtain ⟨i, hi, rfl, rfl, hg⟩ := hrel
    obtain ⟨hp, hl⟩ := cutSt_le B c i
    have hsz := hg.2.size
    have HG := Lib.hid hg
    have HST := Lib.hid (show cutSt B c (i + 1) = if byteAt B i = c then ((cutSt B c i).1 ++ [B.extract (cutSt B c i).2 i], i + 1) else cutSt B c i from rfl)
    have HE := Lib.hid (show cutW B c = (cutSt B c n).1 ++ [B.extract (cutSt B c n).2 n] by rw [← hn]; rfl)
    obtain ⟨a, cc, hv⟩ := strR_slice hg
    clear hg
    by_cases hlt : i < n
    · have hdl : decide ((i : Int) < (n : Int)) = true := by simp; omega
      obtain ⟨b, hb⟩ : ∃ b, byteAt B i = b := ⟨_, rfl⟩
      have hx := getB B i (show i < B.size by omega) hb
      rw [hb] at HST
      generalize cutSt B c i = Y at *
      obtain ⟨ws, p⟩ := Y
      obtain ⟨m, hm⟩ : ∃ m, ws.length = m := ⟨_, rfl⟩
      by_cases hbc : b = c
      · subst hbc
        have HS := Lib.hid (show cutSt B b (i + 1) = (ws ++ [B.extract p i], i + 1) by rw [HST.out, if_pos rfl])
        have HK := Lib.hid hm
        clear hb HST HE
        simp only at hp hl HG hv ⊢
        unfold StrR at HG
        rw [hm] at HG hv hl
        subst hv
        have hpi : (p : Int) ≤ (i : Int) := by omega
        have hiB : (i : Int) ≤ (B.size : Int) := by omega
        go_wp2_with (first | (at_builtin; refine wpList_append_own _ rfl _ _ 110 rfl w.heap.size 9 i0 (.string ⟨#[]⟩) 1 16 Tryz.underlying110 hi0 hz0 hz1 hz2 rfl (by decide) _ _ _ rfl (HG.out.1.alloc _) ⟨wr.heap.size, 0, none⟩ 1 1 [.string (B.extract p i)] rfl rfl ?d1 ?d2 ?d3 ?d4 ?d5 ?_))
        first | (case d1 => exact cells_str _ _ _) | skip
        case d2 => first | rfl | (intro u hu; simp at hu; subst hu; rfl)
        case d3 => unfold maxLen; omega
        case d4 => omega
        case d5 => first | omega | (simp; omega)
        intro v' w1 hown' hgrow _
        have HN := Lib.hid (strR_put (by unfold StrR; rw [HK.out]; exact HG.out) (by omega) HK.out hown' hgrow)
        clear hown' hgrow
        go_wp2
        go_roundw
        case rel => exact ⟨i + 1, by omega, by go_num, (by rw [HS.out]; exact congrArg (Value.int .i64) (Int.natCast_succ i).symm), by rw [HS.out]; exact HN.out⟩
        case measure => simp [intOf]; omega
      · have hne : ((b : Int) == (c : Int)) = false := by simp; omega
        have HS := Lib.hid (show cutSt B c (i + 1) = (ws, p) by rw [HST.out, if_neg hbc])
        clear hb HST HE
        go_wp2
        go_roundw
        case rel => exact ⟨i + 1, by omega, by go_num, by rw [HS.out], by rw [HS.out]; exact HG.out⟩
        case measure => simp [intOf]; omega
    · obtain rfl : i = n := by omega
      have hdl : decide ((i : Int) < (i : Int)) = false := by simp
      generalize cutSt B c i = Y at *
      obtain ⟨ws, p⟩ := Y
      obtain ⟨m, hm⟩ : ∃ m, ws.length = m := ⟨_, rfl⟩
      have HK := Lib.hid hm
      clear HST
      simp only at hp hl HG hv HE ⊢
      unfold StrR at HG
      rw [hm] at HG hv hl
      subst hv
      have hpi : (p : Int) ≤ (i : Int) := by omega
      have hiB : (i : Int) ≤ (B.size : Int) := by omega
      go_wp2_with (first | (at_builtin; refine wpList_append_own _ rfl _ _ 110 rfl w.heap.size 9 i0 (.string ⟨#[]⟩) 1 16 Tryz.underlying110 hi0 hz0 hz1 hz2 rfl (by decide) _ _ _ rfl (HG.out.1.alloc _) ⟨wr.heap.size, 0, none⟩ 1 1 [.string (B.extract p i)] rfl rfl ?d1 ?d2 ?d3 ?d4 ?d5 ?_))
      first | (case d1 => exact cells_str _ _ _) | skip
      case d2 => first | rfl | (intro u hu; simp at hu; subst hu; rfl)
      case d3 => unfold maxLen; omega
      case d4 => omega
      case d5 => first | omega | (simp; omega)
      intro v' w1 hown' hgrow _
      have HN := Lib.hid (strR_put (by unfold StrR; rw [HK.out]; exact HG.out) (by omega) HK.out hown' hgrow)
      clear hown' hgrow
      go_wp2
      go_ret
      exact ⟨v', rfl, by rw [HE.out]; exact HN.out⟩
end Go.Proofs.YtkoiknmijjiicaaGreatDoor
