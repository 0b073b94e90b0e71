/-
  append of any texts to a row of the call's own, in a plain region.
-/
import Derived.Test.YtfeedokfcebjjaaDoorApp3
import Derived.Test.YtfeedokfcebjjaaDoorKept
import Derived.Below
set_option linter.unusedVariables false
set_option linter.unusedSimpArgs false
namespace Go.Proofs.YtfeedokfcebjjaaDoor
open Go.RowKit
section
variable {ops : Array Oper} {rest : List Oper} {o : Oper} {a : Act} {w : World} {Q : Exit → Act → World → Prop}
theorem Row.cap {w : World} {base : Nat} {A : Option Addr} {n c : Nat} {xs : List ByteArray} (h : Row w base (.slice A n c) xs) : n ≤ c := by
  unfold Row at h
  rcases h.2 with ⟨h1, h2⟩ | ⟨g, cap, cur, hv, _, _, hnc, _⟩
  · injection h1 with _ e1 e2; omega
  · injection hv with _ e1 e2; omega
/-- append of any texts that lie in memory, to a row that was made behind W0. -/
theorem app_copy (hgd : o.guard = none) (s x : Operand) (ho : o.op = .call { callee := .builtin .append, args := #[s, x], argTypes := #[22, 22] }) {W0 : World} (hlow : Below W0.heap.size W0 w) (B : Option Addr) (n k : Nat) (xs : List ByteArray) (hlen : xs.length = n) (hs : a.eval s = .slice B n k)
    (hown : Row w W0.heap.size (.slice B n k) xs) (A : Option Addr) (m c : Nat) (hx : a.eval x = .slice A m c) (t : List ByteArray) (htm : t.length = m) (hS : Strs w A t) (hn : n + m ≤ 1000000) (N : Nat) (hN : n + m = N) (ys : List ByteArray) (hys : xs ++ t = ys)
    (h : ∀ A' c' w', Row w' W0.heap.size (.slice A' N c') ys → Strs w' A' ys → Below W0.heap.size W0 w' → wpList Tryd.prog ops Q rest (a.put o.dst (.slice A' N c')) w') :
    wpList Tryd.prog ops Q (o :: rest) a w := by
  subst hN hys
  by_cases hm : m = 0
  · subst hm
    have e : t = [] := List.length_eq_zero_iff.1 htm
    subst e
    refine app_none hgd s x ho B n k hown.cap hs A c hx ?_
    have := h B k w (by simpa using hown) (by simpa using hown.strs) hlow
    simpa using this
  · refine app_strs hgd s x ho W0.heap.size _ xs n hlen hs hown A m c hx t htm hS (by omega) hn hlow.size ?_
    intro g cap w' h1 h2 h3 h4
    exact h (some ⟨g, 0, none⟩) cap w' h1 h1.strs (hlow.grown h2 hlow.size (fun k e => (hown.lt k e).1))
theorem Row.lit1 {W0 w : World} (h : Below W0.heap.size W0 w) : Row (w.alloc (.cells #[] 9)) W0.heap.size (.slice (some ⟨w.heap.size, 0, none⟩) 0 0) [] := Row.lit0 w W0.heap.size h.size
theorem Row.lit2 {W0 w : World} (h : Below W0.heap.size W0 w) (g : Nat) (hg : w.heap.size = g) : Row (w.alloc (.cells #[] 9)) W0.heap.size (.slice (some ⟨g, 0, none⟩) 0 0) [] := hg ▸ Row.lit0 w W0.heap.size h.size
end
end Go.Proofs.YtfeedokfcebjjaaDoor
