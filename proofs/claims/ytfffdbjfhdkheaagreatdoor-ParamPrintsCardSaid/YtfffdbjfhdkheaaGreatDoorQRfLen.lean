/-
  Lemmas on the way to DateTells (RfLen): the reference's leap years, months' lengths, years' lengths.
-/
import Derived.Test.YtfffdbjfhdkheaaGreatDoorQDtLen
set_option linter.unusedVariables false
set_option linter.unusedSimpArgs false
namespace Go.Proofs.YtfffdbjfhdkheaaGreatDoor
open Go.RowKit
set_option maxRecDepth 100000
theorem tmod_of_tmod {y : Int} (a b : Int) (h : Int.tmod y (a * b) = 0) : Int.tmod y a = 0 := by
  apply Int.tmod_eq_zero_of_dvd
  exact Int.dvd_trans (Int.dvd_mul_right a b) (Int.dvd_of_tmod_eq_zero h)
set_option maxHeartbeats 400000 in
theorem rf_leap (y : Int) (w : World) :
    Calls Tryz.prog 110 #[.int .i64 y] w fun e w' => e = .returned (.bool (DtCal.leap y)) ∧ w' = w := by
  by_cases h400 : Int.tmod y 400 = 0
  · have h4 : Int.tmod y 4 = 0 := tmod_of_tmod 4 100 h400
    have a1 : (Int.tmod y 400 == 0) = true := by simp [h400]
    have a2 : DtCal.leap y = true := by simp [DtCal.leap, h400, h4]
    rw [a2]
    go_enter Tryz.func110, Tryz.ntmps110
    go_wp2
    go_ret
    exact ⟨rfl, rfl⟩
  · have a1 : (Int.tmod y 400 == 0) = false := by simp [h400]
    by_cases h4 : Int.tmod y 4 = 0
    · have a2 : (Int.tmod y 4 == 0) = true := by simp [h4]
      by_cases h100 : Int.tmod y 100 = 0
      · have a3 : (Int.tmod y 100 != 0) = false := by simp [h100]
        have a4 : DtCal.leap y = false := by simp [DtCal.leap, h400, h4, h100]
        rw [a4]
        go_enter Tryz.func110, Tryz.ntmps110
        go_wp2
        go_ret
        exact ⟨rfl, rfl⟩
      · have a3 : (Int.tmod y 100 != 0) = true := by simp [h100]
        have a4 : DtCal.leap y = true := by simp [DtCal.leap, h400, h4, h100]
        rw [a4]
        go_enter Tryz.func110, Tryz.ntmps110
        go_wp2
        go_ret
        exact ⟨rfl, rfl⟩
    · have a2 : (Int.tmod y 4 == 0) = false := by simp [h4]
      have a4 : DtCal.leap y = false := by simp [DtCal.leap, h4]
      rw [a4]
      go_enter Tryz.func110, Tryz.ntmps110
      go_wp2
      go_ret
      exact ⟨rfl, rfl⟩
set_option maxHeartbeats 2000000 in
theorem rf_len (y m : Int) (w : World) :
    Calls Tryz.prog 93 #[.int .i64 y, .int .i64 m] w fun e w' => e = .returned (.int .i64 (DtCal.len y m)) ∧ w' = w := by
  rcases (show m < 1 ∨ 12 < m ∨ m = 2 ∨ m = 1 ∨ m = 3 ∨ m = 4 ∨ m = 5 ∨ m = 6 ∨ m = 7 ∨ m = 8 ∨ m = 9 ∨ m = 10 ∨ m = 11 ∨ m = 12 by omega) with h | h | h | h | h | h | h | h | h | h | h | h | h | h
  · go_enter Tryz.func93, Tryz.ntmps93
    go_wp2
    go_ret
    exact ⟨ret_int (by rw [DtCal.len, if_pos (by omega)]), rfl⟩
  · go_enter Tryz.func93, Tryz.ntmps93
    go_wp2
    go_ret
    exact ⟨ret_int (by rw [DtCal.len, if_pos (by omega)]), rfl⟩
  · subst h
    by_cases hl : DtCal.leap y = true
    all_goals
      go_enter Tryz.func93, Tryz.ntmps93
      go_wp2_with (go_at_call 110; refine (rf_leap y _).mono ?_; rintro e w' ⟨rfl, rfl⟩)
      go_ret
      exact ⟨by simp [DtCal.len, hl], rfl⟩
  all_goals
    subst h
    go_enter Tryz.func93, Tryz.ntmps93
    go_wp2
    go_ret
    exact ⟨by simp [DtCal.len], rfl⟩
theorem rf_year (y : Int) (w : World) :
    Calls Tryz.prog 92 #[.int .i64 y] w fun e w' => e = .returned (.int .i64 (365 + DtCal.lp y)) ∧ w' = w := by
  by_cases hl : DtCal.leap y = true
  all_goals
    go_enter Tryz.func92, Tryz.ntmps92
    go_wp2_with (go_at_call 110; refine (rf_leap y _).mono ?_; rintro e w' ⟨rfl, rfl⟩)
    go_ret
    exact ⟨by simp [DtCal.lp, hl], rfl⟩
end Go.Proofs.YtfffdbjfhdkheaaGreatDoor
