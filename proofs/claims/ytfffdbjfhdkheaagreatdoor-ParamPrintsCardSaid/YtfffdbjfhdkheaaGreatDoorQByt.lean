/-
  A row of bytes that grows: append of some bytes; the text of it.
-/
import Derived.Test.YtfffdbjfhdkheaaGreatDoorQ1
import Derived.Deep.AppendLies
import Derived.Laws.IdiomStrings
import Derived.RowKit3
set_option linter.unusedVariables false
set_option linter.unusedSimpArgs false
namespace Go.Proofs.YtfffdbjfhdkheaaGreatDoor
open Go.RowKit
set_option maxRecDepth 100000
def byteV (b : UInt8) : Value := .int .u8 (b.toNat : Int)
/-- A row of the call's own: the bytes that were appended. -/
def BRow (w : World) (base : Nat) (v : Value) (bs : List UInt8) : Prop := w.ownsRow base 5 1 v bs.length (bs.map byteV)
theorem BRow.nil (w : World) (base : Nat) : BRow w base (.slice none 0 0) [] := World.ownsRow_nil _ _ _ _
theorem BRow.next {w w' : World} {base : Nat} {v : Value} {bs : List UInt8} (h : BRow w base v bs) (hb : Below w.heap.size w w') : BRow w' base v bs := by
  refine World.ownsRow.kept h (grown_below hb) ?_
  cases v.ownBlock with
  | none => exact .inl rfl
  | some k => exact .inr (by simp)
theorem BRow.alloc {w : World} {base : Nat} {v : Value} {bs : List UInt8} (h : BRow w base v bs) (o : Obj) : BRow (w.alloc o) base v bs := World.ownsRow.alloc h o
theorem BRow.lt {w : World} {base : Nat} {v : Value} {bs : List UInt8} (h : BRow w base v bs) : ∀ k, v.ownBlock = some k → base ≤ k ∧ k < w.heap.size := World.ownsRow.lt h
theorem byteInfo : ∃ i, Tryz.prog.info? 5 = some i ∧ i.zero = some (.int .u8 0) ∧ i.size = 1 ∧ i.bytes = 1 := by
  have : (Tryz.prog.info? 5).map (fun i => (i.zero, i.size, i.bytes)) = some (some (.int .u8 0), 1, 1) := by kernel_rfl
  exact info_parts this
/-- Its text. -/
theorem BRow.text {w : World} {base : Nat} {v : Value} {bs : List UInt8} (h : BRow w base v bs) : ∃ A c, v = .slice A bs.length c ∧ (convert 84 9 (.slice A bs.length c)).run Tryz.prog w = .ok (.string ⟨bs.toArray⟩) w := by
  cases bs with
  | nil =>
    have h0 := h
    unfold BRow at h0
    obtain ⟨_, h1 | ⟨g, cap, cur, hv, _, hc, _⟩⟩ := h0
    · refine ⟨none, 0, h1.1, ?_⟩
      show (convert 84 9 (.slice none 0 0)).run Tryz.prog w = _
      rw [run_convert_bytes_string w 84 9 5 none 0 0 Tryz.underlying84 Tryz.underlying5 Tryz.underlying9]
      rfl
    · refine ⟨_, _, hv, ?_⟩
      exact run_convert_bytes_back w 84 9 5 _ _ [] Tryz.underlying84 Tryz.underlying5 Tryz.underlying9 (fun j hj => absurd hj (by simp))
  | cons b r =>
    obtain ⟨g, cap, hv, _, hlt⟩ := World.ownsRow.form h (by simp)
    refine ⟨_, _, hv, ?_⟩
    refine run_convert_bytes_back w 84 9 5 _ _ (b :: r) Tryz.underlying84 Tryz.underlying5 Tryz.underlying9 (fun j hj => ?_)
    have hm : ((b :: r).map byteV)[j]? = some (byteV (b :: r)[j]) := by rw [List.getElem?_map, List.getElem?_eq_getElem hj]; rfl
    exact World.ownsRow.cells h (g := g) (by rw [hv]; rfl) j (byteV (b :: r)[j]) hm
section
variable {ops : Array Oper} {rest : List Oper} {o : Oper} {a : Act} {w : World} {Q : Exit → Act → World → Prop}
/-- append of some bytes, at a plain region. -/
theorem app_bytes (hgd : o.guard = none) (s x : Operand) (ho : o.op = .call { callee := .builtin .append, args := #[s, x], argTypes := #[84, 84] }) (base : Nat) (v : Value) (xs : List UInt8) (hs : a.eval s = v)
    (hown : BRow w base v xs) (g0 : Nat) (t : List UInt8) (ht : t ≠ []) (hx : a.eval x = .slice (some ⟨g0, 0, none⟩) t.length t.length) (hc : w.heap[g0]? = some (.cells (t.map byteV).toArray 5 (0, 0))) (hn : xs.length + t.length ≤ 1000000) (hbase : base ≤ w.heap.size)
    (h : ∀ v' w', BRow w' base v' (xs ++ t) → w.grownBy w' v.ownBlock → wpList Tryz.prog ops Q rest (a.put o.dst v') w') :
    wpList Tryz.prog ops Q (o :: rest) a w := by
  obtain ⟨i, hi, hz, hsz, hby⟩ := byteInfo
  have hp : 1 ≤ t.length := List.length_pos_iff.2 ht
  refine wpList_append_lies w hgd s x 84 ho base 5 i (.int .u8 0) 1 1 Tryz.underlying84 hi hz hsz hby rfl (by omega) v xs.length (xs.map byteV) hs hown ⟨g0, 0, none⟩ t.length t.length (t.map byteV) hx (by simp)
    (by have := World.news_of_block hc; simpa using this) (by intro u hu; obtain ⟨q, _, rfl⟩ := List.mem_map.1 hu; rfl) (by omega) (by unfold maxLen; omega) (by omega) hbase _ rfl ?_
  intro g cap w' h1 h2 h3 h4
  refine h _ w' ?_ h2
  unfold BRow
  simpa using h1
end
end Go.Proofs.YtfffdbjfhdkheaaGreatDoor
