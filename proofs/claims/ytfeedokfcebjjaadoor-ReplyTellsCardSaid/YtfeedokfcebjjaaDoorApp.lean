/-
  A row of texts that grows: append of one text; what else lies in memory.
-/
import Derived.Test.YtfeedokfcebjjaaDoorEnv
import Derived.Test.YtfeedokfcebjjaaDoorStrs
import Derived.Test.YtfeedokfcebjjaaDoorMem3
import Derived.Deep.AppendLies
import Derived.RowKit3
set_option linter.unusedVariables false
set_option linter.unusedSimpArgs false
namespace Go.Proofs.YtfeedokfcebjjaaDoor
open Go.RowKit
/-- A row of the call's own: the texts that were appended. -/
def Row (w : World) (base : Nat) (v : Value) (xs : List ByteArray) : Prop := w.ownsRow base 9 1 v xs.length (xs.map Value.string)
theorem Row.nil (w : World) (base : Nat) : Row w base (.slice none 0 0) [] := World.ownsRow_nil _ _ _ _
theorem Row.kept {w w' : World} {base : Nat} {v : Value} {xs : List ByteArray} {row : Option Nat} (h : Row w base v xs) (hg : w.grownBy w' row) (hne : v.ownBlock = none ∨ v.ownBlock ≠ row) : Row w' base v xs := World.ownsRow.kept h hg hne
theorem grown_below {w w' : World} (h : Below w.heap.size w w') : w.grownBy w' none := ⟨h.os, h.tape, h.output, h.size, fun i hi _ => h.block i hi⟩
theorem Row.next {w w' : World} {base : Nat} {v : Value} {xs : List ByteArray} (h : Row w base v xs) (hb : Below w.heap.size w w') : Row w' base v xs := by
  refine h.kept (grown_below hb) ?_
  cases v.ownBlock with
  | none => exact .inl rfl
  | some k => exact .inr (by simp)
theorem Row.alloc {w : World} {base : Nat} {v : Value} {xs : List ByteArray} (h : Row w base v xs) (o : Obj) : Row (w.alloc o) base v xs := World.ownsRow.alloc h o
theorem Row.drewN {w : World} {base : Nat} {v : Value} {xs : List ByteArray} (h : Row w base v xs) (n : Nat) : Row (w.drewN n) base v xs := h.next (pw_below_drewN (Below.refl _ _) n)
/-- Blocks of other elements are no part of it. -/
theorem Row.ne {w : World} {base : Nat} {v : Value} {xs : List ByteArray} (h : Row w base v xs) {b : Nat} {cs : Array Value} {t : TypeId} (hb : Blk w b cs t) (hne : t ≠ 9) : v.ownBlock ≠ some b := by
  intro e
  unfold Row at h
  obtain ⟨_, h | ⟨g, cap, cur, hv, _, hc, _⟩⟩ := h
  · rw [h.1] at e; cases e
  · rw [hv] at e
    simp only [Value.ownBlock, Option.some.injEq] at e
    subst e
    rw [show w.heap[g]? = some (.cells cs t (0, 0)) from hb] at hc
    injection hc with hc
    injection hc with _ ht
    exact hne ht
theorem Row.setOther {w : World} {base : Nat} {v : Value} {xs : List ByteArray} (h : Row w base v xs) {a : Addr} (ha : v.ownBlock ≠ some a.block) (u : Value) : Row (w.setCell a u) base v xs := ownsRow_setCell_other h ha u
theorem Row.lt {w : World} {base : Nat} {v : Value} {xs : List ByteArray} (h : Row w base v xs) : ∀ k, v.ownBlock = some k → base ≤ k ∧ k < w.heap.size := World.ownsRow.lt h
/-- A row of no element is the nil slice, or one at a block. -/
theorem Row.form {w : World} {base : Nat} {v : Value} {xs : List ByteArray} (h : Row w base v xs) : ∃ A c, v = .slice A xs.length c ∧ Strs w A xs := by
  have h0 := h
  unfold Row at h0
  obtain ⟨_, h1 | ⟨g, cap, cur, hv, _, hc, _⟩⟩ := h0
  · exact ⟨none, 0, by rw [h1.1, h1.2], fun hn => absurd (List.length_eq_zero_iff.1 h1.2) hn⟩
  · subst hv
    exact ⟨_, _, rfl, Strs.ofOwn h⟩
theorem Row.strs {w : World} {base : Nat} {A : Option Addr} {n c : Nat} {xs : List ByteArray} (h : Row w base (.slice A n c) xs) : Strs w A xs := by
  obtain ⟨A', c', e, hs⟩ := h.form
  injection e with e1 _ _
  rw [e1]; exact hs
theorem Mine.grown {w : World} {L : List (Nat × Array Value × TypeId)} {W W' : World} {row : Option Nat} (h : Mine w L W) (hg : W.grownBy W' row) (hr : ∀ k, row = some k → w.heap.size ≤ k ∧ ∀ x ∈ L, x.1 ≠ k) : Mine w L W' :=
  ⟨h.low.grown hg h.low.size (fun k e => (hr k e).1), fun x hx => ⟨(h.own x hx).1, (hg.block x.1 (h.own x hx).2.lt (fun e => (hr _ e.symm).2 x hx rfl)).trans (h.own x hx).2⟩⟩
theorem Mine.allocO {w : World} {L : List (Nat × Array Value × TypeId)} {W : World} (h : Mine w L W) (o : Obj) : Mine w L (W.alloc o) := h.next ((Below.refl _ _).alloc (Nat.le_refl _) _)
theorem Mine.app {w : World} {L : List (Nat × Array Value × TypeId)} {W W' : World} {v : Value} {xs : List ByteArray} (h : Mine w L W) (hr : Row W w.heap.size v xs) (hg : W.grownBy W' v.ownBlock) (ht : ∀ x ∈ L, x.2.2 ≠ 9) : Mine w L W' :=
  h.grown hg (fun k e => ⟨(hr.lt k e).1, fun x hx e2 => hr.ne (h.own x hx).2 (ht x hx) (by rw [e, e2])⟩)
theorem Row.neOld {w W : World} {v : Value} {xs : List ByteArray} (h : Row W w.heap.size v xs) {b : Nat} (hb : b < w.heap.size) : v.ownBlock ≠ some b := fun e => by have := (h.lt b e).1; omega
theorem strInfo : ∃ i, Tryd.prog.info? 9 = some i ∧ i.zero = some (.string ⟨#[]⟩) ∧ i.size = 1 ∧ i.bytes = 16 := by
  have : (Tryd.prog.info? 9).map (fun i => (i.zero, i.size, i.bytes)) = some (some (.string ⟨#[]⟩), 1, 16) := by kernel_rfl
  exact info_parts this
section
variable {ops : Array Oper} {rest : List Oper} {o : Oper} {a : Act} {w : World} {Q : Exit → Act → World → Prop}
/-- append of one text, at a plain region. -/
theorem app_str (hgd : o.guard = none) (s x : Operand) (ho : o.op = .call { callee := .builtin .append, args := #[s, x], argTypes := #[22, 22] }) (base : Nat) (v : Value) (xs : List ByteArray) (hs : a.eval s = v)
    (hown : Row w base v xs) (g0 : Nat) (hx : a.eval x = .slice (some ⟨g0, 0, none⟩) 1 1) (t : ByteArray) (hc : w.heap[g0]? = some (.cells #[.string t] 9 (0, 0))) (hn : xs.length ≤ 1000000) (hbase : base ≤ w.heap.size)
    (h : ∀ g cap w', Row w' base (.slice (some ⟨g, 0, none⟩) (xs.length + 1) cap) (xs ++ [t]) → w.grownBy w' v.ownBlock → (v.ownBlock = some g ∨ g = w.heap.size) → g < w'.heap.size → wpList Tryd.prog ops Q rest (a.put o.dst (.slice (some ⟨g, 0, none⟩) (xs.length + 1) cap)) w') :
    wpList Tryd.prog ops Q (o :: rest) a w := by
  obtain ⟨i, hi, hz, hsz, hby⟩ := strInfo
  refine wpList_append_lies w hgd s x 22 ho base 9 i (.string ⟨#[]⟩) 1 16 Tryd.underlying22 hi hz hsz hby rfl (by omega) v xs.length (xs.map Value.string) hs hown ⟨g0, 0, none⟩ 1 1 [.string t] hx rfl
    (by have := World.news_of_block hc; simpa using this) (by simp [Value.oneCell']) (by omega) (by unfold maxLen; omega) (by omega) hbase _ rfl ?_
  intro g cap w' h1 h2 h3 h4
  refine h g cap w' ?_ h2 h3 h4
  unfold Row
  simpa using h1
end
end Go.Proofs.YtfeedokfcebjjaaDoor
