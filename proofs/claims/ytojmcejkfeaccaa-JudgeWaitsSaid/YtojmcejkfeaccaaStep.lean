/-
  Steps of a walk that are taken whole: an operation whose value is known, a struct stored into a block just made, a struct loaded.
-/
import Derived.Test.YtojmcejkfeaccaaMem2
import Derived.Deep.WholeRow
import Derived.Deep.MidRow
import Derived.RegionTactic
import Derived.Deep.RegionHeld3
set_option linter.unusedVariables false
set_option linter.unusedSimpArgs false
namespace Go.Proofs.Ytojmcejkfeaccaa
open Go.RowKit
section
variable {P : Program} {ops : Array Oper} {rest : List Oper} {op : Oper} {a : Act} {w W : World} {Q : Exit → Act → World → Prop}
theorem at_dst {N : Tmp} (_h : op.dst = some N) (h : wpList P ops Q (op :: rest) a w) : wpList P ops Q (op :: rest) a w := h
theorem at_store {T : TypeId} {p : Tmp} {v : Operand} (_h : op.op = .store T (.tmp p) v) (h : wpList P ops Q (op :: rest) a w) : wpList P ops Q (op :: rest) a w := h
theorem step_value (hgd : op.guard = none) (v : Value) (hrun : (execOp a.eval op).run P w = .ok (.value v) w) (h : wpList P ops Q rest (a.put op.dst v) w) : wpList P ops Q (op :: rest) a w := by
  refine wpList_plain hgd fun K hK => ?_
  unfold Oper.wp
  rw [hrun]
  exact hK _ _ h
theorem step_world (hgd : op.guard = none) (v : Value) (w2 : World) (hrun : (execOp a.eval op).run P w = .ok (.value v) w2) (h : wpList P ops Q rest (a.put op.dst v) w2) : wpList P ops Q (op :: rest) a w := by
  refine wpList_plain hgd fun K hK => ?_
  unfold Oper.wp
  rw [hrun]
  exact hK _ _ h
theorem store_new (hgd : op.guard = none) (T : TypeId) (x y : Operand) (c c' : Array Value) (ho : op.op = .store T x y) (H : Nat) (hH : W.heap.size = H)
    (hx : a.eval x = .pointer (some ⟨H, 0, none⟩)) (hy : a.eval y = .agg c') (hi : (P.info? T).map (·.size) = some c'.size) (hs : c.size = c'.size) (h1 : c'.all (·.oneCell') = true)
    (h : wpList P ops Q rest (a.put op.dst undef) (W.alloc (.cells c' T))) : wpList P ops Q (op :: rest) a (W.alloc (.cells c T)) := by
  refine wpList_plain hgd fun K hK => ?_
  subst hH
  have hr := run_storeAt_new (P := P) W T c c' hi hs h1
  unfold Oper.wp execOp
  simp only [ho, hx, hy, Sem.run_bind, hr, Result.andThen_ok, Sem.run_pure]
  exact hK _ _ h
theorem load_blk_g (b : Nat) (ty : TypeId) (hw : Region.wanted op (yielded ops a.tmps) = true) (x : Operand) (ho : op.op = .load ty x)
    (hx : a.eval x = .pointer (some ⟨b, 0, none⟩)) (cs : Array Value) (t : TypeId) (d : TypeDesc) (hb : Blk w b cs t) (hu : P.underlying ty = some d) (hd : d.isRow = true) (hi : (P.info? ty).map (·.size) = some cs.size)
    (h : wpList P ops Q rest (a.put op.dst (.agg cs)) w) : wpList P ops Q (op :: rest) a w := by
  refine wpList_step fun K hK => ?_
  rw [if_pos hw]
  refine wp_load_mid ty x ho b 0 hx cs.toList d (fun j v hv => ?_) hu hd (by simpa using hi) (hK _ _ (by simpa using h))
  have := hb.cell j v (by simpa using hv)
  simpa using this
end
end Go.Proofs.Ytojmcejkfeaccaa
