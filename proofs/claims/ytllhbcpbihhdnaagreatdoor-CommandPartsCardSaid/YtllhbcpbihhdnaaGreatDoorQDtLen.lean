/-
  Lemmas on the way to the date laws (DtLen): what each function does, walked once, and plain laws of dates.
-/
import Derived.Test.YtllhbcpbihhdnaaGreatDoorQ1
import Derived.Test.YtllhbcpbihhdnaaGreatDoorRows
import Derived.Deep.QuietTactic
import Derived.BigQuiet
import Derived.Deep.RegionHeld3
set_option linter.unusedVariables false
set_option linter.unusedSimpArgs false
namespace Go.Proofs.YtllhbcpbihhdnaaGreatDoor
open Go.RowKit
set_option maxRecDepth 100000
set_option maxHeartbeats 400000 in
theorem leap_any (y : Int) (w : World) :
    Calls Tryz.prog 139 #[.int .i64 y] w fun e w' => e = .returned (.bool (DtCal.leap y)) ∧ w' = w := by
  by_cases h4 : Int.tmod y 4 = 0
  · by_cases h100 : Int.tmod y 100 = 0
    · have a1 : (Int.tmod y 4 == 0) = true := by simp [h4]
      have a2 : (Int.tmod y 100 != 0) = false := by simp [h100]
      go_enter Tryz.func139, Tryz.ntmps139
      go_wp2
      go_ret
      exact ⟨by simp [DtCal.leap, a1, a2], rfl⟩
    · have a1 : (Int.tmod y 4 == 0) = true := by simp [h4]
      have a2 : (Int.tmod y 100 != 0) = true := by simp [h100]
      go_enter Tryz.func139, Tryz.ntmps139
      go_wp2
      go_ret
      exact ⟨by simp [DtCal.leap, a1, a2], rfl⟩
  · have a1 : (Int.tmod y 4 == 0) = false := by simp [h4]
    go_enter Tryz.func139, Tryz.ntmps139
    go_wp2
    go_ret
    exact ⟨by simp [DtCal.leap, a1], rfl⟩
set_option maxHeartbeats 2000000 in
theorem len_any (y m : Int) (w : World) :
    Calls Tryz.prog 123 #[.int .i64 y, .int .i64 m] w fun e w' => e = .returned (.int .i64 (DtCal.len y m)) ∧ Below w.heap.size w w' := by
  rcases (show m < 1 ∨ 12 < m ∨ m = 2 ∨ (1 ≤ m ∧ m ≤ 12 ∧ m ≠ 2) by omega) with h | h | h | ⟨h1, h2, h3⟩
  · go_enter Tryz.func123, Tryz.ntmps123
    go_wp2
    go_ret
    exact ⟨ret_int (by rw [DtCal.len, if_pos (by omega)]), (Below.refl _ _).alloc (Nat.le_refl _) _⟩
  · go_enter Tryz.func123, Tryz.ntmps123
    go_wp2
    go_ret
    exact ⟨ret_int (by rw [DtCal.len, if_pos (by omega)]), (Below.refl _ _).alloc (Nat.le_refl _) _⟩
  · subst h
    by_cases hl : DtCal.leap y = true
    all_goals
      go_enter Tryz.func123, Tryz.ntmps123
      go_wp2_with (go_at_call 139; refine (leap_any y _).mono ?_; rintro e w' ⟨rfl, rfl⟩)
      go_ret
      exact ⟨by simp [DtCal.len, hl], (Below.refl _ _).alloc (Nat.le_refl _) _⟩
  · rcases (show m = 1 ∨ m = 3 ∨ m = 4 ∨ m = 5 ∨ m = 6 ∨ m = 7 ∨ m = 8 ∨ m = 9 ∨ m = 10 ∨ m = 11 ∨ m = 12 by omega) with rfl | rfl | rfl | rfl | rfl | rfl | rfl | rfl | rfl | rfl | rfl
    all_goals
      go_enter Tryz.func123, Tryz.ntmps123
      go_wp2
      go_ret
      exact ⟨by simp [DtCal.len], (Below.refl _ _).alloc (Nat.le_refl _) _⟩
theorem before_any (y : Int) (w : World) (h0 : 1 ≤ y) (h1 : y ≤ 20000) :
    Calls Tryz.prog 122 #[.int .i64 y] w fun e w' => e = .returned (.int .i64 (DtCal.dby y)) ∧ w' = w := by
  go_enter Tryz.func122, Tryz.ntmps122
  go_wp2
  go_ret
  exact ⟨rfl, rfl⟩
end Go.Proofs.YtllhbcpbihhdnaaGreatDoor
