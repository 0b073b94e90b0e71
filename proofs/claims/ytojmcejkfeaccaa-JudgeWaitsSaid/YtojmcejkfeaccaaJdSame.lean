/-
  Two rows of one text, the same: duepostref01.Same says so.
-/
import Derived.Test.YtojmcejkfeaccaaMem2
import Derived.Test.YtojmcejkfeaccaaProg
import Derived.Deep.QuietTactic
import Derived.BigQuiet
set_option linter.unusedVariables false
set_option linter.unusedSimpArgs false
namespace Go.Proofs.Ytojmcejkfeaccaa
open Go.RowKit
set_option maxHeartbeats 1000000 in
theorem same_one (k : ByteArray) (q p : Nat) (t t' : TypeId) (W : World) (hq : Blk W q #[.string k] t) (hp : Blk W p #[.string k] t') :
    Calls Try.prog 11 #[.slice (some ⟨q, 0, none⟩) 1 1, .slice (some ⟨p, 0, none⟩) 1 1] W fun e w' => e = .returned (.bool true) ∧ Below W.heap.size W w' := by
  have cq := hq.cell 0 _ rfl
  have cp := hp.cell 0 _ rfl
  clear hq hp
  go_enter Try.func11, Try.ntmps11
  go_wp2
  go_loopw [5] (fun i w' => (i = .int .i64 0 ∨ i = .int .i64 1) ∧ ∃ n, w' = W.drewN n) (fun i _ => (1 - intOf i).toNat)
  case atStart => exact ⟨Or.inl rfl, 0, rfl⟩
  case round =>
    obtain ⟨rfl | rfl, n, rfl⟩ := hrel
    · go_wp2
      go_quiet (fail)
      go_wp2
      go_roundw
      case rel => exact ⟨Or.inr rfl, _, rfl⟩
      case measure => simp [intOf]
    · go_wp2
      go_ret
      exact ⟨rfl, pw_below_drewN (Below.refl _ _) n⟩
end Go.Proofs.Ytojmcejkfeaccaa
