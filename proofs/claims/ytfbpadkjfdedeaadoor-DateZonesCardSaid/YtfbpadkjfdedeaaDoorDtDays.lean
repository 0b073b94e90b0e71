/-
  Lemmas on the way to the date laws (DtDays): what each function does, walked once, and plain laws of dates.
-/
import Derived.Test.YtfbpadkjfdedeaaDoorDtLen
set_option linter.unusedVariables false
set_option linter.unusedSimpArgs false
namespace Go.Proofs.YtfbpadkjfdedeaaDoor
open Go.RowKit
set_option maxRecDepth 100000
set_option maxHeartbeats 2000000 in
theorem right_yes (y m d : Int) (w : World) (h1 : 1970 ≤ y) (h2 : y ≤ 9999) (h3 : 1 ≤ m) (h4 : 1 ≤ d) :
    Calls Tryd.prog 22 #[.agg #[.int .i64 y, .int .i64 m, .int .i64 d]] w fun e w' => e = .returned (.bool (DtCal.right y m d)) ∧ Below w.heap.size w w' := by
  have HR : Hid (DtCal.right y m d = decide (d ≤ DtCal.len y m)) := by
    unfold Hid DtCal.right; rw [Bool.eq_iff_iff]; simp; omega
  go_enter Tryd.func22, Tryd.ntmps22
  go_wp2
  go_region_held3 (fun w' => w'.cell? ⟨w.heap.size, 0, none⟩ = some (.int .i64 y) ∧ w'.cell? ⟨w.heap.size, 1, none⟩ = some (.int .i64 m) ∧ w'.cell? ⟨w.heap.size, 2, none⟩ = some (.int .i64 d) ∧ Below w.heap.size w w') (((try dsimp only); refine ⟨?_, ?_, ?_, ?_⟩ <;> (first | go_keep | exact ((Below.refl _ _).alloc (Nat.le_refl _) _).drew | exact Below.next (‹_ ∧ _ ∧ _ ∧ Below _ _ _›).2.2.2 hb (Nat.le_refl _) | exact cell_next hb (‹_ ∧ _ ∧ _ ∧ Below _ _ _›).1 | exact cell_next hb (‹_ ∧ _ ∧ _ ∧ Below _ _ _›).2.1 | exact cell_next hb (‹_ ∧ _ ∧ _ ∧ Below _ _ _›).2.2.1)))
    (first | (go_at_call 19; refine (len_any _ _ _).mono ?_; rintro e w' ⟨rfl, hb⟩))
  all_goals
    go_wp2
    go_ret
    exact ⟨ret_bool (by rw [HR.out]), by first | assumption | exact (‹_ ∧ _ ∧ _ ∧ Below _ _ _›).2.2.2⟩
theorem right_any (y m d : Int) (w : World) :
    Calls Tryd.prog 22 #[.agg #[.int .i64 y, .int .i64 m, .int .i64 d]] w fun e w' => e = .returned (.bool (DtCal.right y m d)) ∧ Below w.heap.size w w' := by
  by_cases h1 : 1970 ≤ y
  · by_cases h2 : y ≤ 9999
    · by_cases h3 : 1 ≤ m
      · by_cases h4 : 1 ≤ d
        · exact right_yes y m d w h1 h2 h3 h4
        · have hd : decide (1 ≤ d) = false := by simpa using h4
          go_enter Tryd.func22, Tryd.ntmps22
          go_wp2
          go_quiet (fail)
          go_wp2
          go_ret
          exact ⟨ret_bool (by unfold DtCal.right; simp; omega), pw_below_drewN ((Below.refl _ _).alloc (Nat.le_refl _) _) _⟩
      · have hd : decide (1 ≤ m) = false := by simpa using h3
        go_enter Tryd.func22, Tryd.ntmps22
        go_wp2
        go_quiet (fail)
        go_wp2
        go_ret
        exact ⟨ret_bool (by unfold DtCal.right; simp; omega), pw_below_drewN ((Below.refl _ _).alloc (Nat.le_refl _) _) _⟩
    · have hd : decide (y ≤ 9999) = false := by simpa using h2
      go_enter Tryd.func22, Tryd.ntmps22
      go_wp2
      go_quiet (fail)
      go_wp2
      go_ret
      exact ⟨ret_bool (by unfold DtCal.right; simp; omega), pw_below_drewN ((Below.refl _ _).alloc (Nat.le_refl _) _) _⟩
  · have hd : decide (1970 ≤ y) = false := by simpa using h1
    go_enter Tryd.func22, Tryd.ntmps22
    go_wp2
    go_quiet (fail)
    go_wp2
    go_ret
    exact ⟨ret_bool (by unfold DtCal.right; simp; omega), pw_below_drewN ((Below.refl _ _).alloc (Nat.le_refl _) _) _⟩
end Go.Proofs.YtfbpadkjfdedeaaDoor
