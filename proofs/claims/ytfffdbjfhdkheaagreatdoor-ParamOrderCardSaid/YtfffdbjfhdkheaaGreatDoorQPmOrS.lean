/-
  A remainder; a text loaded from a row.
-/
import Derived.Test.YtfffdbjfhdkheaaGreatDoorQPmBk0
set_option linter.unusedVariables false
set_option linter.unusedSimpArgs false
namespace Go.Proofs.YtfffdbjfhdkheaaGreatDoor
open Go.RowKit Go.Shelf
set_option maxRecDepth 100000
theorem rem_run (k : Int) (n q : Nat) (hk : 0 ≤ k) (hk2 : I64 k) (hn : 0 < n) (hq : k.tmod (n : Int) = q) (hql : q < n) (hn2 : n ≤ 100000) (w : World) (a : Act) (o : Oper) (x y : Operand) (ho : o.op = .binOp .rem 3 x y 3) (hx : a.eval x = .int .i64 k) (hy : a.eval y = .int .i64 n) :
    (execOp a.eval o).run Tryz.prog w = .ok (.value (.int .i64 q)) w := by
  have hn1 : ((n : Int) == 0) = false := by rw [beq_eq_false_iff_ne]; omega
  have hq2 : k % (n : Int) = q := by rw [← hq, Int.tmod_eq_emod_of_nonneg hk]
  simp only [execOp, ho, hx, hy]
  go_simp
  omega
theorem load_run (p : Addr) (t : ByteArray) (w : World) (hc : w.cell? p = some (.string t)) (a : Act) (o : Oper) (x : Operand) (ho : o.op = .load 9 x) (hx : a.eval x = .pointer (some p)) :
    (execOp a.eval o).run Tryz.prog w = .ok (.value (.string t)) w := by
  simp only [execOp, ho, hx]
  go_simp
end Go.Proofs.YtfffdbjfhdkheaaGreatDoor
