/-
  A quiet region behind a quiet region: contracts of calls that leave all as it was, over worlds that have drawn.
-/
import Derived.Test.YtfbpadkjfdedeaaDoorMem
import Derived.Deep.QuietTactic
namespace Go.Proofs.YtfbpadkjfdedeaaDoor
open Go.RowKit
theorem quiet_add_same {P : Program} {f : FuncId} {args : Array Value} {w : World} {a n : Nat} {v : Value}
    (h : Calls P f args (w.drewN (a + n)) fun e w' => e = .returned v ∧ w' = w.drewN (a + n)) :
    Calls P f args (w.drewN (a + n)) fun e w'' => e = .returned v ∧ ∃ m, w'' = w.drewN (a + m) :=
  h.mono fun _ _ ⟨he, hm⟩ => ⟨he, n, hm⟩
end Go.Proofs.YtfbpadkjfdedeaaDoor
