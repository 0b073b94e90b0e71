/-
  Walks of the package judge: judge.Try, case by case (what stands in memory).
-/
import Derived.Test.YtojmcejkfeaccaaJdEnd
set_option linter.unusedVariables false
set_option linter.unusedSimpArgs false
namespace Go.Proofs.Ytojmcejkfeaccaa
open Go.RowKit JdLaw
set_option maxRecDepth 100000
theorem Row.old {B : Nat} {w : World} {v : Value} {k : Option ByteArray} (h : Row B w v k) (o : Obj) : Row B (w.alloc o) v k := by
  cases k with
  | none => exact h
  | some k => obtain ⟨q, h1, h2, h3⟩ := h; exact ⟨q, h1, h2, h3.old _⟩
theorem PassW.setT {w : World} {b mo li wa : Int} {m : JdMsg.Msg} {pl : Int} {st : ByteArray} {tr nx td : Int} {w1 : World} (h : PassW w b mo li wa m pl st tr nx td w1) (s : Int) : PassW w b mo li wa m pl st s nx td (w1.setCell ⟨w.heap.size + 1 + 1, 2, none⟩ (.int .i64 s)) :=
  ⟨h.plan.setOther _ (by simp; omega), h.msg.setOther _ (by simp), by have := h.sta.set 2 (.int .i64 s); simpa using this, h.res.setOther _ (by simp), h.low.setCell (by simp; omega) _⟩
theorem PassW.setN {w : World} {b mo li wa : Int} {m : JdMsg.Msg} {pl : Int} {st : ByteArray} {tr nx td : Int} {w1 : World} (h : PassW w b mo li wa m pl st tr nx td w1) (s : Int) : PassW w b mo li wa m pl st tr s td (w1.setCell ⟨w.heap.size + 1 + 1, 3, none⟩ (.int .i64 s)) :=
  ⟨h.plan.setOther _ (by simp; omega), h.msg.setOther _ (by simp), by have := h.sta.set 3 (.int .i64 s); simpa using this, h.res.setOther _ (by simp), h.low.setCell (by simp; omega) _⟩
end Go.Proofs.Ytojmcejkfeaccaa
