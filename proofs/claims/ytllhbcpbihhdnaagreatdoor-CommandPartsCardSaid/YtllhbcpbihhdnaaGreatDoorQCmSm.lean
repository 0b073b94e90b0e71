/-
  What the laws of commands share: blocks of their own, commands that are equal, what is small.
-/
import Derived.Test.YtllhbcpbihhdnaaGreatDoorQCmAw
import Derived.Test.YtllhbcpbihhdnaaGreatDoorQ6
set_option linter.unusedVariables false
set_option linter.unusedSimpArgs false
namespace Go.Proofs.YtllhbcpbihhdnaaGreatDoor
open Go.RowKit Go.Shelf Pm
set_option maxRecDepth 100000
theorem Mine.new {w W : World} {L : List (Nat × Array Value × TypeId)} (h : Mine w L W) (cs : Array Value) (t : TypeId) (b : Nat) (hb : W.heap.size = b) : Mine w ((b, cs, t) :: L) (W.alloc (.cells cs t)) := hb ▸ h.alloc cs t
theorem neq_self (c : Cm.Cmd) (w : World) (a : Act) (o : Oper) (x y : Operand) (t' : TypeId) (ho : o.op = .binOp .neq 31 x y t') (hx : a.eval x = .agg c.cells) (hy : a.eval y = .agg c.cells) : (execOp a.eval o).run Tryz.prog w = .ok (.value (.bool false)) w := by
  have := neq_cmd c c w a o x y t' ho hx hy
  rwa [Cm.Cmd.eqb_self] at this
theorem eql_self (c : Cm.Cmd) (w : World) (a : Act) (o : Oper) (x y : Operand) (t' : TypeId) (ho : o.op = .binOp .eql 31 x y t') (hx : a.eval x = .agg c.cells) (hy : a.eval y = .agg c.cells) : (execOp a.eval o).run Tryz.prog w = .ok (.value (.bool true)) w := by
  have := eql_cmd c c w a o x y t' ho hx hy
  rwa [Cm.Cmd.eqb_self] at this
theorem i64_in {n : Int} (h : (Lit.int .i64 n).wf = true) : I64 n := by
  have h2 := h
  simp [Lit.wf, IntKind.min, IntKind.max, IntKind.signed, IntKind.bits] at h2
  unfold I64
  omega
theorem u8_in {n : Int} (h : (Lit.int .u8 n).wf = true) : ∃ b : Nat, n = b ∧ b < 256 := by
  have h2 := h
  simp [Lit.wf, IntKind.min, IntKind.max, IntKind.signed, IntKind.bits] at h2
  exact ⟨n.toNat, by omega, by omega⟩
/-- What is small is gone through. -/
theorem small_fits (c : Cm.Cmd) (hm : MlIn c.ml) (h : c.small = true) : Cm.Fits c ∧ c.verb.length + c.arg.length ≤ 2000 := by
  unfold Cm.Cmd.small at h
  rw [Bool.and_eq_true, Bool.and_eq_true] at h
  obtain ⟨k0, k1, k2⟩ := h
  have j0 := of_decide_eq_true k0
  have j1 := of_decide_eq_true k1
  have j2 := of_decide_eq_true k2
  obtain ⟨a1, a2, a3, a4, a5, a6, a7, a8, a9⟩ := hm
  exact ⟨⟨⟨i64_in a1, i64_in a2, i64_in a4, i64_in a5, by omega, by omega, by omega⟩, fun h => (right_zero _ h).1.env, by omega, by omega, by omega⟩, by omega⟩
theorem small_in (c : Cm.Cmd) (h1 : c.verb.length ≤ reachBytes) (h2 : c.arg.length ≤ reachBytes) (h3 : c.lo.length ≤ reachBytes) (h4 : c.dm.length ≤ reachBytes) (hm : MlIn c.ml) (hr : RcIn c.rc) (W : World) : Calls Tryz.prog 8 #[.agg c.cells] W fun e w' => e = .returned (.bool c.small) ∧ Below W.heap.size W w' := by
  obtain ⟨a1, a2, a3, a4, a5, a6, a7, a8, a9⟩ := hm
  obtain ⟨b1, b2, b3⟩ := hr
  have hb : reachBytes = 140737488351232 := by rfl
  exact small_cmd c (by omega) (by omega) (by omega) W
end Go.Proofs.YtllhbcpbihhdnaaGreatDoor
