/-
  append of one text, at a region that draws its order.
-/
import Derived.Test.YtfeedokfcebjjaaDoorApp
set_option linter.unusedVariables false
set_option linter.unusedSimpArgs false
namespace Go.Proofs.YtfeedokfcebjjaaDoor
open Go.RowKit
section
variable {ops : Array Oper} {o : Oper} {a : Act} {w : World} {Q : Exit → Act → World → Prop} {K : Act → World → Prop} {E : Prop}
theorem app_step (hgd : o.guard = none) (s x : Operand) (ho : o.op = .call { callee := .builtin .append, args := #[s, x], argTypes := #[22, 22] }) (base : Nat) (v : Value) (xs : List ByteArray) (hs : a.eval s = v)
    (hown : Row w base v xs) (g0 : Nat) (hx : a.eval x = .slice (some ⟨g0, 0, none⟩) 1 1) (t : ByteArray) (hc : w.heap[g0]? = some (.cells #[.string t] 9 (0, 0))) (hn : xs.length ≤ 1000000) (hbase : base ≤ w.heap.size)
    (h : ∀ g cap w', Row w' base (.slice (some ⟨g, 0, none⟩) (xs.length + 1) cap) (xs ++ [t]) → w.grownBy w' v.ownBlock → (v.ownBlock = some g ∨ g = w.heap.size) → g < w'.heap.size → K (a.put o.dst (.slice (some ⟨g, 0, none⟩) (xs.length + 1) cap)) w') :
    if Region.wanted o (yielded ops a.tmps) = true then Oper.wp Tryd.prog o a w K Q else E := by
  obtain ⟨i, hi, hz, hsz, hby⟩ := strInfo
  refine step_append_lies w hgd s x 22 ho base 9 i (.string ⟨#[]⟩) 1 16 Tryd.underlying22 hi hz hsz hby rfl (by omega) v xs.length (xs.map Value.string) hs hown ⟨g0, 0, none⟩ 1 1 [.string t] hx rfl
    (by have := World.news_of_block hc; simpa using this) (by simp [Value.oneCell']) (by omega) (by unfold maxLen; omega) (by omega) hbase _ rfl ?_
  intro g cap w' h1 h2 h3 h4
  refine h g cap w' ?_ h2 h3 h4
  unfold Row
  simpa using h1
theorem app_step_n (hgd : o.guard = none) (s x : Operand) (ho : o.op = .call { callee := .builtin .append, args := #[s, x], argTypes := #[22, 22] }) (base : Nat) (v : Value) (xs : List ByteArray) (n : Nat) (hlen : xs.length = n) (hs : a.eval s = v)
    (hown : Row w base v xs) (g0 : Nat) (hx : a.eval x = .slice (some ⟨g0, 0, none⟩) 1 1) (t : ByteArray) (hc : w.heap[g0]? = some (.cells #[.string t] 9 (0, 0))) (hn : n ≤ 1000000) (hbase : base ≤ w.heap.size)
    (h : ∀ g cap w', Row w' base (.slice (some ⟨g, 0, none⟩) (n + 1) cap) (xs ++ [t]) → w.grownBy w' v.ownBlock → (v.ownBlock = some g ∨ g = w.heap.size) → g < w'.heap.size → K (a.put o.dst (.slice (some ⟨g, 0, none⟩) (n + 1) cap)) w') :
    if Region.wanted o (yielded ops a.tmps) = true then Oper.wp Tryd.prog o a w K Q else E := by
  subst hlen
  exact app_step hgd s x ho base v xs hs hown g0 hx t hc hn hbase h
end
end Go.Proofs.YtfeedokfcebjjaaDoor
