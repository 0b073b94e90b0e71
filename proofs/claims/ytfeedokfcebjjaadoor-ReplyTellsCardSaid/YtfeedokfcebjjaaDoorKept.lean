/-
  What is kept in the midst of a law: blocks and texts, whatever memory is made.
-/
import Derived.Test.YtfeedokfcebjjaaDoorStrs
set_option linter.unusedVariables false
namespace Go.Proofs.YtfeedokfcebjjaaDoor
open Go.RowKit
structure Kp (w : World) (L : List (Nat × Array Value × TypeId)) (S : List (Option Addr × List ByteArray)) (W : World) : Prop where
  low : Below w.heap.size w W
  own : ∀ x ∈ L, Blk W x.1 x.2.1 x.2.2
  strs : ∀ x ∈ S, Strs W x.1 x.2
section
variable {w W W' : World} {L : List (Nat × Array Value × TypeId)} {S : List (Option Addr × List ByteArray)}
theorem Kp.start (w : World) : Kp w [] [] w := ⟨Below.refl _ _, fun _ h => (by cases h), fun _ h => (by cases h)⟩
theorem Kp.next (h : Kp w L S W) (k : Below W.heap.size W W') : Kp w L S W' := ⟨Below.next h.low k (Nat.le_refl _), fun x hx => (h.own x hx).below k, fun x hx => (h.strs x hx).next k⟩
theorem Kp.alloc (h : Kp w L S W) (o : Obj) : Kp w L S (W.alloc o) := h.next ((Below.refl _ _).alloc (Nat.le_refl _) _)
theorem Kp.drew (h : Kp w L S W) : Kp w L S W.drew := h.next (pw_below_drewN (Below.refl _ _) 1)
theorem Kp.blk (h : Kp w L S W) (cs : Array Value) (t : TypeId) : Kp w ((W.heap.size, cs, t) :: L) S (W.alloc (.cells cs t)) :=
  ⟨(h.alloc _).low, fun x hx => by
    rcases List.mem_cons.1 hx with rfl | hx
    · exact Blk.new _ _
    · exact (h.alloc _).own x hx, (h.alloc _).strs⟩
theorem Kp.str (h : Kp w L S W) {A : Option Addr} {xs : List ByteArray} (hs : Strs W A xs) : Kp w L ((A, xs) :: S) W := ⟨h.low, h.own, fun x hx => by
  rcases List.mem_cons.1 hx with rfl | hx
  · exact hs
  · exact h.strs x hx⟩
theorem Kp.textm (h : Kp w L S W) {A : Option Addr} {xs : List ByteArray} (hm : (A, xs) ∈ S) : Strs W A xs := h.strs _ hm
/-- A block of texts reads as them. -/
theorem Strs.ofBlk {b : Nat} {xs : List ByteArray} {t : TypeId} (h : Blk W b (xs.map Value.string).toArray t) : Strs W (some ⟨b, 0, none⟩) xs := fun hn =>
  ⟨b, 0, rfl, h.lt, fun j hj => by
    rw [Nat.zero_add]
    exact h.cell j _ (by simp [hj])⟩
theorem Strs.new (W : World) (xs : List ByteArray) (t : TypeId) : Strs (W.alloc (.cells (xs.map Value.string).toArray t)) (some ⟨W.heap.size, 0, none⟩) xs := Strs.ofBlk (Blk.new _ _)
theorem Kp.blk' (h : Kp w L S W) (cs : Array Value) (t : TypeId) (n : Nat) (hn : W.heap.size = n) : Kp w ((n, cs, t) :: L) S (W.alloc (.cells cs t)) := hn ▸ h.blk cs t
theorem Kp.texts' (h : Kp w L S W) (xs : List ByteArray) (t : TypeId) (n : Nat) (hn : W.heap.size = n) : Kp w L ((some ⟨n, 0, none⟩, xs) :: S) (W.alloc (.cells (xs.map Value.string).toArray t)) := hn ▸ (h.alloc _).str (Strs.new W xs t)
theorem Kp.texts (h : Kp w L S W) (xs : List ByteArray) (t : TypeId) : Kp w L ((some ⟨W.heap.size, 0, none⟩, xs) :: S) (W.alloc (.cells (xs.map Value.string).toArray t)) := (h.alloc _).str (Strs.new W xs t)
end
end Go.Proofs.YtfeedokfcebjjaaDoor
