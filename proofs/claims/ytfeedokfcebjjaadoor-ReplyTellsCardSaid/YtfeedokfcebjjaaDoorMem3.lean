/-
  Stores into blocks of a call's own.
-/
import Derived.Test.YtfeedokfcebjjaaDoorMem2
set_option linter.unusedVariables false
namespace Go.Proofs.YtfeedokfcebjjaaDoor
open Go.RowKit
/-- A store into the youngest block. -/
theorem Mine.set {w : World} {b : Nat} {cs : Array Value} {t : TypeId} {L : List (Nat × Array Value × TypeId)} {W : World} (h : Mine w ((b, cs, t) :: L) W) (hne : ∀ x ∈ L, x.1 ≠ b) (i : Nat) (v : Value) : Mine w ((b, cs.setIfInBounds i v, t) :: L) (W.setCell ⟨b, i, none⟩ v) :=
  have h0 := h.own _ (List.mem_cons_self ..)
  ⟨h.low.setCell (p := ⟨b, i, none⟩) h0.1 v, fun x hx => by
    rcases List.mem_cons.1 hx with rfl | hx
    · exact ⟨h0.1, h0.2.set i v⟩
    · exact ⟨(h.own x (List.mem_cons_of_mem _ hx)).1, (h.own x (List.mem_cons_of_mem _ hx)).2.setOther _ (hne x hx)⟩⟩
theorem Mine.swap {w : World} {x y : Nat × Array Value × TypeId} {L : List (Nat × Array Value × TypeId)} {W : World} (h : Mine w (x :: y :: L) W) : Mine w (y :: x :: L) W := ⟨h.low, fun z hz => h.own z (by simp only [List.mem_cons] at hz ⊢; rcases hz with h | h | h <;> simp [h])⟩
theorem Mine.setLow {w : World} {L : List (Nat × Array Value × TypeId)} {W : World} (h : Below w.heap.size w W) {p : Addr} (hp : w.heap.size ≤ p.block) (v : Value) : Below w.heap.size w (W.setCell p v) := h.setCell hp v
end Go.Proofs.YtfeedokfcebjjaaDoor
