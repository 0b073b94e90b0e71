/-
  A literal slice of texts, guarded or not: taken whole.
-/
import Derived.Test.YtfffdbjfhdkheaaGreatDoorQ1
import Derived.Test.YtfffdbjfhdkheaaGreatDoorProg
import Derived.Great.BuildSlice
set_option linter.unusedVariables false
set_option linter.unusedSimpArgs false
namespace Go.Proofs.YtfffdbjfhdkheaaGreatDoor
open Go.RowKit
set_option maxRecDepth 100000
section
variable {ops : Array Oper} {rest : List Oper} {o : Oper} {a : Act} {w : World} {Q : Exit → Act → World → Prop}
theorem parts_strs (a : Act) (parts : Array (Nat × Operand)) (ss : List ByteArray) (hparts : parts.toList = (ss.zipIdx 0).map fun x => (x.2, Operand.const (Value.string x.1))) :
    (parts.map fun (i, x) => (i, a.eval x)).toList = ((ss.map Value.string).zipIdx 0).map fun x => (x.2, x.1) := by
  rw [Array.toList_map, hparts, List.zipIdx_map, List.map_map, List.map_map]
  rfl
theorem strInfoS : (∃ i, Tryz.prog.info? 9 = some i ∧ i.zero = some (.string ByteArray.empty) ∧ i.size = 1) := by
  have : (Tryz.prog.info? 9).map (fun i => (i.zero, i.size)) = some (some (.string ByteArray.empty), 1) := by kernel_rfl
  cases h : Tryz.prog.info? 9 with
  | none => rw [h] at this; cases this
  | some i =>
    rw [h] at this
    simp only [Option.map_some, Option.some.injEq, Prod.mk.injEq] at this
    exact ⟨i, rfl, this.1, this.2⟩
theorem strs_lit (hw : Region.wanted o (yielded ops a.tmps) = true) (n : Nat) (parts : Array (Nat × Operand)) (ho : o.op = .buildSlice 49 n parts) (ss : List ByteArray) (hlen : n = ss.length) (hpos : 0 < n) (hsmall : n ≤ 1000)
    (hparts : parts.toList = (ss.zipIdx 0).map fun x => (x.2, Operand.const (Value.string x.1))) (cs : Array Value) (hcs : (ss.map Value.string).toArray = cs) (N : Nat) (hN : w.heap.size = N)
    (h : wpList Tryz.prog ops Q rest (a.put o.dst (.slice (some ⟨N, 0, none⟩) n n)) (w.alloc (.cells cs 9))) : wpList Tryz.prog ops Q (o :: rest) a w := by
  subst hcs hN
  obtain ⟨i, hi, hz, hsz⟩ := strInfoS
  refine wpList_step fun K hK => ?_
  rw [if_pos hw]
  refine wp_buildSlice 49 9 n parts ho _ i _ Tryz.underlying49 hi hz (by rw [hsz]; omega) (by rw [hsz]; omega) ?_ (hK _ _ h)
  rw [parts_strs a parts ss hparts, hsz]
  exact Great.fill_flat _ _ (fun v hv => by obtain ⟨s, _, rfl⟩ := List.mem_map.1 hv; rfl) (by simp [hlen])
end
end Go.Proofs.YtfffdbjfhdkheaaGreatDoor
