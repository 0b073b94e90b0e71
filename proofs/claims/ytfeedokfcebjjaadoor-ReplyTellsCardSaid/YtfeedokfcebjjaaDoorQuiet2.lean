/-
  Regions that draw their order, whose own operations leave the world alone, and whose calls lead from a class of worlds into it: one walk in the order of the text.
-/
import Derived.Test.YtfeedokfcebjjaaDoorMem2
import Derived.Deep.QuietTactic
import Derived.Deep.MidRow
import Derived.BigQuiet
set_option linter.unusedVariables false
set_option linter.unusedSimpArgs false
namespace Go.Proofs.YtfeedokfcebjjaaDoor
open Go.RowKit
/-- The walk of what is left of a region; closed, so that nothing unfolds it. -/
structure WQ (P : Program) (ops : Array Oper) (C : World → Prop) (Q : Act → Prop) (l : List Oper) (a : Act) : Prop where
  mk :: (out : wpQuiet P ops C Q l a)
section
variable {P : Program} {ops : Array Oper} {C : World → Prop} {a : Act} {o : Oper} {rest : List Oper} {Q : Act → Prop}
theorem region_class {id : Nat} {Q : Exit → Act → World → Prop} {w : World} {l : List Oper} (hm : P.follows .mixedOrders = true) (hB : Region.lexB .any l.toArray = true) (hC : C w.drew)
    (h : WQ P l.toArray C (fun a' => ∀ w', C w' → Q .normal a' w') l a) : (Code.region id l.toArray true).wp P Q a w :=
  wp_region_quiet hm hB hC (by simpa using h.out)
theorem q_nil (h : Q a) : WQ P ops C Q [] a := ⟨wpQuiet_nil h⟩
theorem q_skip (hw : Region.wanted o (yielded ops a.tmps) = false) (h : WQ P ops C Q rest (a.put o.dst undef)) : WQ P ops C Q (o :: rest) a := ⟨BigFrame.wpQuiet_skip hw h.out⟩
theorem q_run (hw : Region.wanted o (yielded ops a.tmps) = true) (v : Value) (hv : ∀ w, C w → (execOp a.eval o).run P w = .ok (.value v) w) (h : WQ P ops C Q rest (a.put o.dst v)) : WQ P ops C Q (o :: rest) a :=
  ⟨BigFrame.wpQuiet_want hw fun K hK => ⟨v, fun w hC => by unfold Oper.quietAt; rw [hv w hC]; exact ⟨rfl, rfl⟩, hK _ h.out⟩⟩
theorem q_call (hw : Region.wanted o (yielded ops a.tmps) = true) (v : Value) (f : FuncId) (args : Array Value) (hv : ∀ w, C w → (execOp a.eval o).run P w = .ok (.enter f args) w)
    (hc : ∀ w, C w → Calls P f args w fun e w' => e = .returned v ∧ C w') (h : WQ P ops C Q rest (a.put o.dst v)) : WQ P ops C Q (o :: rest) a :=
  ⟨BigFrame.wpQuiet_want hw fun K hK => ⟨v, fun w hC => by unfold Oper.quietAt; rw [hv w hC]; exact ⟨rfl, hc w hC⟩, hK _ h.out⟩⟩
theorem q_row (hw : Region.wanted o (yielded ops a.tmps) = true) (T : TypeId) (x : Operand) (ho : o.op = .load T x) (b k : Nat) (hx : a.eval x = .pointer (some ⟨b, k, none⟩)) (cs : List Value) (d : TypeDesc)
    (hc : ∀ w, C w → w.rangeAt b k cs) (hu : P.underlying T = some d) (hd : d.isRow = true) (hi : (P.info? T).map (·.size) = some cs.length) (h : WQ P ops C Q rest (a.put o.dst (.agg cs.toArray))) : WQ P ops C Q (o :: rest) a :=
  q_run hw _ (fun w hC => by
    unfold execOp
    simp only [ho, hx, Sem.run_bind, run_loadAt_mid w b k T cs d (hc w hC) hu hd hi, Result.andThen_ok, Sem.run_pure]) h
end
end Go.Proofs.YtfeedokfcebjjaaDoor
