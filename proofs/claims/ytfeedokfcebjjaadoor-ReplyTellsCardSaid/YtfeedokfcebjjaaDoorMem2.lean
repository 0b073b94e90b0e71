/-
  What stands in the midst of a call: below all is as it was, and blocks of the call's own.
-/
import Derived.Test.YtfeedokfcebjjaaDoorMem
set_option linter.unusedVariables false
set_option linter.unusedSimpArgs false
namespace Go.Proofs.YtfeedokfcebjjaaDoor
open Go.RowKit
/-- What stands in the midst of a call: below all is as it was; blocks of the call's own, the youngest first. -/
structure Mine (w : World) (L : List (Nat × Array Value × TypeId)) (W : World) : Prop where
  low : Below w.heap.size w W
  own : ∀ x ∈ L, w.heap.size ≤ x.1 ∧ Blk W x.1 x.2.1 x.2.2
theorem Mine.start (w : World) : Mine w [] w := ⟨Below.refl _ _, fun x h => by cases h⟩
theorem Mine.next {w : World} {L : List (Nat × Array Value × TypeId)} {W W' : World} (h : Mine w L W) (k : Below W.heap.size W W') : Mine w L W' :=
  ⟨Below.next h.low k (Nat.le_refl _), fun x hx => ⟨(h.own x hx).1, (h.own x hx).2.below k⟩⟩
theorem Mine.alloc {w : World} {L : List (Nat × Array Value × TypeId)} {W : World} (h : Mine w L W) (cs : Array Value) (t : TypeId) : Mine w ((W.heap.size, cs, t) :: L) (W.alloc (.cells cs t)) :=
  ⟨h.low.alloc h.low.size _, fun x hx => by
    rcases List.mem_cons.1 hx with rfl | hx
    · exact ⟨h.low.size, Blk.new _ _⟩
    · exact ⟨(h.own x hx).1, (h.own x hx).2.old _⟩⟩
theorem Mine.drewN {w : World} {L : List (Nat × Array Value × TypeId)} {W : World} (h : Mine w L W) (n : Nat) : Mine w L (W.drewN n) := ⟨pw_below_drewN h.low n, fun x hx => h.own x hx⟩
theorem Mine.drop {w : World} {x : Nat × Array Value × TypeId} {L : List (Nat × Array Value × TypeId)} {W : World} (h : Mine w (x :: L) W) : Mine w L W := ⟨h.low, fun y hy => h.own y (List.mem_cons_of_mem _ hy)⟩
theorem Mine.at {w : World} {b : Nat} {cs : Array Value} {t : TypeId} {L : List (Nat × Array Value × TypeId)} {W : World} (h : Mine w ((b, cs, t) :: L) W) (i : Nat) (v : Value) (hv : cs[i]? = some v) : W.cell? ⟨b, i, none⟩ = some v :=
  (h.own _ (List.mem_cons_self ..)).2.cell i v hv
theorem Mine.lt {w : World} {b : Nat} {cs : Array Value} {t : TypeId} {L : List (Nat × Array Value × TypeId)} {W : World} (h : Mine w ((b, cs, t) :: L) W) : b < W.heap.size := (h.own _ (List.mem_cons_self ..)).2.lt
theorem Mine.free {w : World} {b : Nat} {cs : Array Value} {t : TypeId} {L : List (Nat × Array Value × TypeId)} {W : World} (h : Mine w ((b, cs, t) :: L) W) (i : Nat) : W.frozen? ⟨b, i, none⟩ = false := (h.own _ (List.mem_cons_self ..)).2.free i
end Go.Proofs.YtfeedokfcebjjaaDoor
