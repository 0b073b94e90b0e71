/-
  Slices of texts that lie in memory: what they read as.
-/
import Derived.Test.YtfeedokfcebjjaaDoorMem2
import Derived.OwnWalk
import Derived.Laws.AppendOwn
import Derived.Deep.AppendLies
import Derived.Deep.MidRow
set_option linter.unusedVariables false
set_option linter.unusedSimpArgs false
namespace Go.Proofs.YtfeedokfcebjjaaDoor
open Go.RowKit
/-- A slice at A reads as these texts (nil, or anything, where there is none). -/
def Strs (w : World) (A : Option Addr) (xs : List ByteArray) : Prop := xs ≠ [] → ∃ b o, A = some ⟨b, o, none⟩ ∧ b < w.heap.size ∧ ∀ j, (h : j < xs.length) → w.cell? ⟨b, o + j, none⟩ = some (.string xs[j])
theorem Strs.nil (w : World) (A : Option Addr) : Strs w A [] := fun h => absurd rfl h
theorem Strs.next {w w1 : World} {A : Option Addr} {xs : List ByteArray} (h : Strs w A xs) (hb : Below w.heap.size w w1) : Strs w1 A xs := fun hn => by
  obtain ⟨b, o, e, hl, hc⟩ := h hn
  exact ⟨b, o, e, Nat.lt_of_lt_of_le hl hb.size, fun j hj => cell_next hb (hc j hj)⟩
theorem Strs.at {w : World} {A : Option Addr} {xs : List ByteArray} (h : Strs w A xs) (k : Nat) (hk : k < xs.length) : ∃ b o, A = some ⟨b, o, none⟩ ∧ b < w.heap.size ∧ w.cell? ⟨b, o + k, none⟩ = some (.string xs[k]) := by
  obtain ⟨b, o, e, hl, hc⟩ := h (by intro e; rw [e] at hk; simp at hk)
  exact ⟨b, o, e, hl, hc k hk⟩
/-- What a row of the call's own reads as. -/
theorem Strs.ofOwn {w : World} {base : Nat} {e : TypeId} {A : Option Addr} {n c : Nat} {xs : List ByteArray} (h : w.ownsRow base e 1 (.slice A n c) xs.length (xs.map Value.string)) : Strs w A xs := fun hn => by
  obtain ⟨g, cap, hv, _, hlt⟩ := World.ownsRow.form h (by cases xs with | nil => exact absurd rfl hn | cons => simp)
  injection hv with hA _ _
  subst hA
  exact ⟨g, 0, rfl, hlt, fun j hj => by
    have := World.ownsRow.cells h (g := g) rfl j (.string xs[j]) (by simp [hj])
    rw [Addr.add_mid] at this
    simpa using this⟩
end Go.Proofs.YtfeedokfcebjjaaDoor
