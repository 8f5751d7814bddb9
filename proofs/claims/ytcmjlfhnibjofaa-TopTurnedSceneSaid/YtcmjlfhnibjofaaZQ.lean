import Derived.Test.YtcmjlfhnibjofaaZK
import Derived.Shelf.Strings.BuilderK
import Derived.Test.YtcmjlfhnibjofaaShelf
import Derived.Maps.AppendAt
import Derived.Lib.AppendIntMem
import Derived.ArgAppend
import Derived.Lib.Join
/- Door seat: strings.Builder: copyCheck, WriteString. (After the kit's Derived/Shelf/Strings/Builder1, BuilderK: this program's copyCheck has a stop in it, so that the shelf's structure cannot be laid.) -/
namespace Go.Proofs.Ytcmjlfhnibjofaa
set_option linter.unusedVariables false
set_option linter.unusedSimpArgs false
open Go.RowKit
theorem b_byte : (Try.prog.info? 5).map (fun i => (i.zero, i.size, i.bytes)) = some (some (.int .u8 0), 1, 1) := by kernel_rfl
end Go.Proofs.Ytcmjlfhnibjofaa

/- Door seat: strconv.Itoa; joined. -/
namespace Go.Proofs.Ytcmjlfhnibjofaa
set_option linter.unusedVariables false
set_option linter.unusedSimpArgs false
open Go.RowKit
theorem below_grown (w : World) (k : Nat) (os : Array Obj) : Below w.heap.size w (Go.Sort.grow (w.drewN k) os) := below_regrown w (w.drewN k).drawn os
def Tab (w : World) : Prop := Lib.TabIs Try.prog w "internal/strconv.uint64pow10" .u64 Lib.pow10Tab
theorem Tab.below {w w' : World} (h : Tab w) (hb : Below w.heap.size w w') : Tab w' := Lib.tabBelow_of_tabIs h w' hb
theorem own_below {W W' : World} {B e size n : Nat} {v : Value} {xs : List Value} (h : W.ownsRow B e size v n xs) (hb : Below W.heap.size W W') : W'.ownsRow B e size v n xs :=
  h.kept (row := none) ⟨hb.os, hb.tape, hb.output, hb.size, fun k hk _ => hb.block k hk⟩ (Classical.em _)
theorem own_base {W : World} {B B' e size n : Nat} {v : Value} {xs : List Value} (h : W.ownsRow B e size v n xs) (hb : B' ≤ B) : W.ownsRow B' e size v n xs := by
  obtain ⟨h1, h2 | ⟨g, cap, cur, h2, h3, h4⟩⟩ := h
  · exact ⟨h1, Or.inl h2⟩
  · exact ⟨h1, Or.inr ⟨g, cap, cur, h2, by omega, h4⟩⟩
/-- Words, as cells hold them. -/
def wordsC (ws : List ByteArray) : List Value := ws.map .string
theorem infoS : (Try.prog.info? 9).map (fun i => (i.zero, i.size, i.bytes)) = some (some (.string ⟨#[]⟩), 1, 16) := by kernel_rfl
def itoaS (n : Int) : ByteArray := ⟨(Lib.itoa n).toArray⟩
theorem words_snoc (ws : List ByteArray) (s : ByteArray) : wordsC (ws ++ [s]) = wordsC ws ++ [.string s] := by unfold wordsC; rw [List.map_append]; rfl
theorem take_snoc_int (ns : List Int) {k : Nat} (hk : k < ns.length) : (ns.map itoaS).take (k + 1) = (ns.map itoaS).take k ++ [itoaS (intAt ns k)] := by
  rw [List.take_succ_eq_append_getElem (by simpa using hk)]
  unfold intAt
  simp [hk]
/-- What joined writes. -/
def joinedB (ws : List ByteArray) (ns : List Int) : List UInt8 := Lib.join ((ws ++ ns.map itoaS).map (·.data.toList)) [32] ++ [10]
/-- Words that came in, in a row that is full. -/
def FullAt (W : World) (v : Value) (n : Nat) (ws : List ByteArray) : Prop := ∃ A, v = .slice (some ⟨A, 0, none⟩) n n ∧ A < W.heap.size ∧ ws.length = n ∧ ∀ j u, (wordsC ws)[j]? = some u → W.cell? ((⟨A, 0, none⟩ : Addr).add j) = some u
theorem FullAt.below {W W' : World} {v : Value} {n : Nat} {ws : List ByteArray} (h : FullAt W v n ws) (hb : Below W.heap.size W W') : FullAt W' v n ws := by
  obtain ⟨A, h1, h2, h3, h4⟩ := h
  refine ⟨A, h1, by have := hb.size; omega, h3, fun j u hu => ?_⟩
  have := h4 j u hu
  rw [← this]
  have e : (⟨A, 0, none⟩ : Addr).add j = ⟨A, j, none⟩ := by simp [Addr.add] <;> omega
  rw [e]
  exact hb.cell (p := ⟨A, j, none⟩) h2
theorem wpList_append_grows {P : Program} {ops : Array Oper} {rest : List Oper} {o : Oper} {a : Act} {w : World} {Q : Exit → Act → World → Prop} (hgd : o.guard = none) (s x : Operand) (t : TypeId)
    (ho : o.op = .call { callee := .builtin .append, args := #[s, x], argTypes := #[t, t] })
    (e : TypeId) (i : TypeInfo) (z : Value) (size bytes : Nat) (ht : P.underlying t = some (.slice e)) (hi : P.info? e = some i) (hz : i.zero = some z)
    (hsize : i.size = size) (hby : i.bytes = bytes) (hzs : z.cells.size = size) (hsz : 0 < size)
    (b : Addr) (n cap : Nat) (hs : a.eval s = .slice (some b) n cap) (olds : List Value) (hlo : olds.length = n * size) (holds : ∀ j u, olds[j]? = some u → w.cell? (b.add j) = some u)
    (ad : Addr) (m c : Nat) (news : List Value) (hx : a.eval x = .slice (some ad) m c) (hl : news.length = m * size) (hnews : ∀ j u, news[j]? = some u → w.cell? (ad.add j) = some u)
    (hg : cap < n + m) (h63 : n + m ≤ maxLen) (hbytes : (n + m) * bytes ≤ 140737488355328)
    (h : ∀ v' w', w'.ownsRow w.heap.size e size v' (n + m) (olds ++ news) → w.grownBy w' none → wpList P ops Q rest (a.put o.dst v') w') :
    wpList P ops Q (o :: rest) a w := by
  refine wpList_plain hgd fun K hK => ?_
  obtain ⟨v', w', hr, h2, h3⟩ := run_append_arg_grows (P := P) w t o.type e i z size bytes ht hi hz hsize hby hzs hsz b n cap olds hlo holds ad m c news hl hnews hg h63 hbytes
  unfold Oper.wp execOp
  simp only [ho, resolve, invoke, builtin, Sem.run_bind, Sem.run_pure, Result.andThen_ok, List.map_toArray, List.map_cons, List.map_nil, hs, hx, hr]
  exact hK _ _ (h v' w' h2 h3)
/-- The words so far. -/
def JoinSt (w : World) (n : Nat) (ws : List ByteArray) (v : Value) (wr : World) : Prop := (wr.ownsRow w.heap.size 9 1 v n (wordsC ws) ∨ FullAt wr v n ws) ∧ Below w.heap.size w wr
end Go.Proofs.Ytcmjlfhnibjofaa
