/-
  A row of texts, as it comes in.
-/
import Derived.Test.YtfeedokfcebjjaaDoorRows
import Derived.Test.YtfeedokfcebjjaaDoorStrs
import Derived.SliceStrings
import Derived.ProofKit
set_option linter.unusedVariables false
set_option linter.unusedSimpArgs false
namespace Go.Proofs.YtfeedokfcebjjaaDoor
open Go.RowKit
set_option maxRecDepth 100000
theorem texts_of_trod {H : Type} {enc : TypeId × Value → H} {w : World} {base : Nat} {spare : Nat → Bool} {held : Bool} {m : Nat} {v : Value} {x : DataW H × List MemPlace}
    (hm : DataW.trod enc Tryd.prog w base spare held m 22 [v] = some x) : ∃ A c t, v = .slice A t.length c ∧ Strs w A t ∧ t.length ≤ 9223372036854775807 ∧ ∀ s ∈ t, s.size ≤ 9223372036854775807 := by
  rcases Go.ChangeShapes.open_strings Tryd.underlying22 Tryd.underlying9 (by kernel_rfl) hm with ⟨e, _⟩ | ⟨a, len, cap, ss, e, hb, hlc, hcm, hsl, _, hc, hs⟩
  · injection e with e
    exact ⟨none, 0, [], e, Strs.nil _ _, by simp, fun s hs => by cases hs⟩
  · injection e with e
    have hle : len ≤ ss.length := by rw [hsl]; split <;> omega
    have hlen : (ss.take len).length = len := by rw [List.length_take]; omega
    refine ⟨some a, cap, ss.take len, by rw [hlen]; exact e, ?_, by rw [hlen]; exact Nat.le_trans hlc hcm, fun s hs2 => hs s (List.mem_of_mem_take hs2)⟩
    intro hn
    have hpos : 0 < ss.length := by
      have : 0 < (ss.take len).length := List.length_pos_iff.2 hn
      omega
    have h0 := hc 0 hpos
    have hsp := World.cell?_spot h0
    obtain ⟨b, o, sp⟩ := a
    have : sp = none := by simpa [Addr.add] using hsp
    subst this
    refine ⟨b, o, rfl, World.block_lt_of_cell? w _ h0, fun j hj => ?_⟩
    have := hc j (by omega)
    rw [Addr.add_mid] at this
    rw [this, List.getD_eq_getElem?_getD, List.getElem?_eq_getElem (by omega)]
    simp
theorem open_texts {H : Type} {enc : TypeId × Value → H} {w : World} {base : Nat} {spare : Nat → Bool} {held : Bool} {r : Reach} {b0 : Nat} {v : Value} {d : DataW H} {p : List MemPlace}
    (hv : Value.okWide Tryd.prog w r b0 22 v) (h : DataW.Trod enc Tryd.prog w base spare held 22 v d p) : ∃ A c t, v = .slice A t.length c ∧ Strs w A t ∧ t.length ≤ 9223372036854775807 ∧ ∀ s ∈ t, s.size ≤ 9223372036854775807 := by
  obtain ⟨A0, l0, k0, rfl⟩ := Go.WideShapes.okWide_slice Tryd.underlying22 hv
  obtain ⟨m, hm⟩ := h
  exact texts_of_trod hm
end Go.Proofs.YtfeedokfcebjjaaDoor
