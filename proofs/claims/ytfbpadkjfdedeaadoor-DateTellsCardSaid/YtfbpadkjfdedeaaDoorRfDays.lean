/-
  Lemmas on the way to DateTells (RfDays): the reference's number of a date's days.
-/
import Derived.Test.YtfbpadkjfdedeaaDoorRfLen
import Derived.IntWalk
set_option linter.unusedVariables false
set_option linter.unusedSimpArgs false
namespace Go.Proofs.YtfbpadkjfdedeaaDoor
open Go.RowKit
set_option maxRecDepth 100000
set_option maxHeartbeats 2000000 in
theorem rf_days_no0 (y m d : Int) (w : World) (h1 : y < 1970) :
    Calls Tryd.prog 10 #[.agg #[.int .i64 y, .int .i64 m, .int .i64 d]] w fun e w' => e = .returned (.tuple #[.int .i64 0, .int .i64 1]) ∧ Below w.heap.size w w' := by
  have hd0 : decide (y < 1970) = true := by simp only [decide_eq_true_eq, decide_eq_false_iff_not]; omega
  go_enter Tryd.func10, Tryd.ntmps10
  go_wp2
  go_quiet ((go_at_call 20; exact Calls.quiet_of_same (rf_len _ _ _)))
  go_wp2
  go_ret2
  exact ⟨rfl, pw_below_drewN ((Below.refl _ _).alloc (Nat.le_refl _) _) _⟩
set_option maxHeartbeats 2000000 in
theorem rf_days_no1 (y m d : Int) (w : World) (h1 : 1970 ≤ y) (h2 : 9999 < y) :
    Calls Tryd.prog 10 #[.agg #[.int .i64 y, .int .i64 m, .int .i64 d]] w fun e w' => e = .returned (.tuple #[.int .i64 0, .int .i64 1]) ∧ Below w.heap.size w w' := by
  have hd0 : decide (y < 1970) = false := by simp only [decide_eq_true_eq, decide_eq_false_iff_not]; omega
  have hd1 : decide (9999 < y) = true := by simp only [decide_eq_true_eq, decide_eq_false_iff_not]; omega
  go_enter Tryd.func10, Tryd.ntmps10
  go_wp2
  go_quiet ((go_at_call 20; exact Calls.quiet_of_same (rf_len _ _ _)))
  go_wp2
  go_ret2
  exact ⟨rfl, pw_below_drewN ((Below.refl _ _).alloc (Nat.le_refl _) _) _⟩
set_option maxHeartbeats 2000000 in
theorem rf_days_no2 (y m d : Int) (w : World) (h1 : 1970 ≤ y) (h2 : y ≤ 9999) (h3 : m < 1) :
    Calls Tryd.prog 10 #[.agg #[.int .i64 y, .int .i64 m, .int .i64 d]] w fun e w' => e = .returned (.tuple #[.int .i64 0, .int .i64 1]) ∧ Below w.heap.size w w' := by
  have hd0 : decide (y < 1970) = false := by simp only [decide_eq_true_eq, decide_eq_false_iff_not]; omega
  have hd1 : decide (9999 < y) = false := by simp only [decide_eq_true_eq, decide_eq_false_iff_not]; omega
  have hd2 : decide (m < 1) = true := by simp only [decide_eq_true_eq, decide_eq_false_iff_not]; omega
  go_enter Tryd.func10, Tryd.ntmps10
  go_wp2
  go_quiet ((go_at_call 20; exact Calls.quiet_of_same (rf_len _ _ _)))
  go_wp2
  go_ret2
  exact ⟨rfl, pw_below_drewN ((Below.refl _ _).alloc (Nat.le_refl _) _) _⟩
set_option maxHeartbeats 2000000 in
theorem rf_days_no3 (y m d : Int) (w : World) (h1 : 1970 ≤ y) (h2 : y ≤ 9999) (h3 : 1 ≤ m) (h4 : 12 < m) :
    Calls Tryd.prog 10 #[.agg #[.int .i64 y, .int .i64 m, .int .i64 d]] w fun e w' => e = .returned (.tuple #[.int .i64 0, .int .i64 1]) ∧ Below w.heap.size w w' := by
  have hd0 : decide (y < 1970) = false := by simp only [decide_eq_true_eq, decide_eq_false_iff_not]; omega
  have hd1 : decide (9999 < y) = false := by simp only [decide_eq_true_eq, decide_eq_false_iff_not]; omega
  have hd2 : decide (m < 1) = false := by simp only [decide_eq_true_eq, decide_eq_false_iff_not]; omega
  have hd3 : decide (12 < m) = true := by simp only [decide_eq_true_eq, decide_eq_false_iff_not]; omega
  go_enter Tryd.func10, Tryd.ntmps10
  go_wp2
  go_quiet ((go_at_call 20; exact Calls.quiet_of_same (rf_len _ _ _)))
  go_wp2
  go_ret2
  exact ⟨rfl, pw_below_drewN ((Below.refl _ _).alloc (Nat.le_refl _) _) _⟩
set_option maxHeartbeats 2000000 in
theorem rf_days_no4 (y m d : Int) (w : World) (h1 : 1970 ≤ y) (h2 : y ≤ 9999) (h3 : 1 ≤ m) (h4 : m ≤ 12) (h5 : d < 1) :
    Calls Tryd.prog 10 #[.agg #[.int .i64 y, .int .i64 m, .int .i64 d]] w fun e w' => e = .returned (.tuple #[.int .i64 0, .int .i64 1]) ∧ Below w.heap.size w w' := by
  have hd0 : decide (y < 1970) = false := by simp only [decide_eq_true_eq, decide_eq_false_iff_not]; omega
  have hd1 : decide (9999 < y) = false := by simp only [decide_eq_true_eq, decide_eq_false_iff_not]; omega
  have hd2 : decide (m < 1) = false := by simp only [decide_eq_true_eq, decide_eq_false_iff_not]; omega
  have hd3 : decide (12 < m) = false := by simp only [decide_eq_true_eq, decide_eq_false_iff_not]; omega
  have hd4 : decide (d < 1) = true := by simp only [decide_eq_true_eq, decide_eq_false_iff_not]; omega
  go_enter Tryd.func10, Tryd.ntmps10
  go_wp2
  go_quiet ((go_at_call 20; exact Calls.quiet_of_same (rf_len _ _ _)))
  go_wp2
  go_ret2
  exact ⟨rfl, pw_below_drewN ((Below.refl _ _).alloc (Nat.le_refl _) _) _⟩
set_option maxHeartbeats 2000000 in
theorem rf_days_no5 (y m d : Int) (w : World) (h1 : 1970 ≤ y) (h2 : y ≤ 9999) (h3 : 1 ≤ m) (h4 : m ≤ 12) (h5 : 1 ≤ d) (h6 : DtCal.len y m < d) :
    Calls Tryd.prog 10 #[.agg #[.int .i64 y, .int .i64 m, .int .i64 d]] w fun e w' => e = .returned (.tuple #[.int .i64 0, .int .i64 1]) ∧ Below w.heap.size w w' := by
  have hd0 : decide (y < 1970) = false := by simp only [decide_eq_true_eq, decide_eq_false_iff_not]; omega
  have hd1 : decide (9999 < y) = false := by simp only [decide_eq_true_eq, decide_eq_false_iff_not]; omega
  have hd2 : decide (m < 1) = false := by simp only [decide_eq_true_eq, decide_eq_false_iff_not]; omega
  have hd3 : decide (12 < m) = false := by simp only [decide_eq_true_eq, decide_eq_false_iff_not]; omega
  have hd4 : decide (d < 1) = false := by simp only [decide_eq_true_eq, decide_eq_false_iff_not]; omega
  have hd5 : decide (DtCal.len y m < d) = true := by simp only [decide_eq_true_eq, decide_eq_false_iff_not]; omega
  go_enter Tryd.func10, Tryd.ntmps10
  go_wp2
  go_quiet ((go_at_call 20; exact Calls.quiet_of_same (rf_len _ _ _)))
  go_wp2
  go_ret2
  exact ⟨rfl, pw_below_drewN ((Below.refl _ _).alloc (Nat.le_refl _) _) _⟩
theorem rf_days_no (y m d : Int) (w : World) (h : DtCal.right y m d = false) :
    Calls Tryd.prog 10 #[.agg #[.int .i64 y, .int .i64 m, .int .i64 d]] w fun e w' => e = .returned (.tuple #[.int .i64 0, .int .i64 1]) ∧ Below w.heap.size w w' := by
  have hn : ¬ (1970 ≤ y ∧ y ≤ 9999 ∧ 1 ≤ m ∧ 1 ≤ d ∧ d ≤ DtCal.len y m) := fun k => by rw [DtCal.right_iff.2 k] at h; cases h
  have hl : 12 < m → DtCal.len y m = 0 := fun k => by rw [DtCal.len, if_pos (.inr k)]
  rcases (show y < 1970 ∨ (1970 ≤ y ∧ (9999 < y ∨ (y ≤ 9999 ∧ (m < 1 ∨ (1 ≤ m ∧ (12 < m ∨ (m ≤ 12 ∧ (d < 1 ∨ (1 ≤ d ∧ DtCal.len y m < d))))))))) by omega) with h1 | ⟨h1, h2 | ⟨h2, h3 | ⟨h3, h4 | ⟨h4, h5 | ⟨h5, h6⟩⟩⟩⟩⟩
  · exact rf_days_no0 y m d w h1
  · exact rf_days_no1 y m d w h1 h2
  · exact rf_days_no2 y m d w h1 h2 h3
  · exact rf_days_no3 y m d w h1 h2 h3 h4
  · exact rf_days_no4 y m d w h1 h2 h3 h4 h5
  · exact rf_days_no5 y m d w h1 h2 h3 h4 h5 h6
set_option maxHeartbeats 2000000 in
theorem rf_days_yes (y : Int) (M : Nat) (d : Int) (w : World) (h : DtCal.right y M d = true) :
    Calls Tryd.prog 10 #[.agg #[.int .i64 y, .int .i64 M, .int .i64 d]] w fun e w' => e = .returned (.tuple #[.int .i64 (DtCal.dby y - 719162 + DtCal.cum y (M - 1) + d - 1), .int .i64 0]) ∧ Below w.heap.size w w' := by
  have hm := DtCal.right_month h
  obtain ⟨h1, h2, h3, h4, h5⟩ := DtCal.right_iff.1 h
  have hl := DtCal.len_bd y M
  have hb := DtCal.dby_bd y (by omega) (by omega)
  have hmo := DtCal.dby_mono 1970 y (by omega) (by omega)
  have h1970 : DtCal.dby 1970 = 719162 := by decide
  rw [h1970] at hmo
  have hd0 : decide (y < 1970) = false := by simp only [decide_eq_false_iff_not]; omega
  have hd1 : decide (9999 < y) = false := by simp only [decide_eq_false_iff_not]; omega
  have hd2 : decide ((M : Int) < 1) = false := by simp only [decide_eq_false_iff_not]; omega
  have hd3 : decide (12 < (M : Int)) = false := by simp only [decide_eq_false_iff_not]; omega
  have hd4 : decide (d < 1) = false := by simp only [decide_eq_false_iff_not]; omega
  have hd5 : decide (DtCal.len y (M : Int) < d) = false := by simp only [decide_eq_false_iff_not]; omega
  go_enter Tryd.func10, Tryd.ntmps10
  go_wp2
  go_quiet ((go_at_call 20; exact Calls.quiet_of_same (rf_len _ _ _)))
  clear hd0 hd1 hd2 hd3 hd4 hd5
  go_wp2
  have HB0 : Below w.heap.size w ((w.alloc (.cells #[.int .i64 y, .int .i64 M, .int .i64 d] 30)).drewN nq) := pw_below_drewN ((Below.refl _ _).alloc (Nat.le_refl _) _) _
  go_loop [4, 5] (fun n k => ∃ k' : Int, 1970 ≤ k' ∧ k' ≤ y ∧ n = .int .i64 (DtCal.dby k' - 719162) ∧ k = .int .i64 k') (fun _ k => (y - intOf k).toNat)
  case atStart => exact ⟨1970, by omega, by omega, by rw [h1970]; rfl, rfl⟩
  case round =>
    obtain ⟨k, hk1, hk2, rfl, rfl⟩ := hrel
    have bd := DtCal.dby_bd k (by omega) (by omega)
    have hlp := DtCal.lp_01 k
    by_cases hlt : k < y
    · have HS := Lib.hid (DtCal.dby_succ k (by omega))
      go_wp2_with (go_at_call 24; refine (rf_year _ _).mono ?_; rintro e w' ⟨rfl, rfl⟩)
      go_round
      case rel => exact ⟨k + 1, by omega, by omega, by rw [HS.out]; congr 1; omega, rfl⟩
      case measure => simp [intOf]; omega
    · have hky : k = y := by omega
      subst hky
      go_wp2
      go_loop [4, 6] (fun n i => ∃ j : Nat, 1 ≤ j ∧ j ≤ M ∧ i = .int .i64 j ∧ n = .int .i64 (DtCal.dby k - 719162 + DtCal.cum k (j - 1))) (fun _ i => M - (intOf i).toNat)
      case atStart => exact ⟨1, by omega, by omega, rfl, by simp [DtCal.cum]⟩
      case round =>
        obtain ⟨j, hj1, hjM, rfl, rfl⟩ := hrel
        have hc := DtCal.cum_bd k (j - 1)
        have hlk := DtCal.len_bd k j
        by_cases hlt2 : j < M
        · have HC : Hid (DtCal.cum k (j + 1 - 1) = DtCal.cum k (j - 1) + DtCal.len k j) := by
            obtain ⟨i, rfl⟩ : ∃ i, j = i + 1 := ⟨j - 1, by omega⟩
            simp [Hid, DtCal.cum]
          go_wp2_with (go_at_call 20; refine (rf_len _ _ _).mono ?_; rintro e w2 ⟨rfl, rfl⟩)
          go_round
          case rel => exact ⟨j + 1, by omega, by omega, by simp, by rw [HC.out]; congr 1; omega⟩
          case measure => simp [intOf]; omega
        · have hjM' : j = M := by omega
          subst hjM'
          go_wp2
          go_ret2
          exact ⟨rfl, HB0⟩
theorem rf_days (y m d : Int) (w : World) :
    Calls Tryd.prog 10 #[.agg #[.int .i64 y, .int .i64 m, .int .i64 d]] w fun e w' => e = .returned (.tuple #[.int .i64 (DtCal.days y m d).1, .int .i64 (DtCal.days y m d).2]) ∧ Below w.heap.size w w' := by
  unfold DtCal.days
  by_cases h : DtCal.right y m d = true
  · rw [if_pos h]
    obtain ⟨M, rfl⟩ : ∃ M : Nat, m = M := ⟨m.toNat, by have := (DtCal.right_iff.1 h).2.2.1; omega⟩
    exact rf_days_yes y M d w h
  · rw [if_neg h]
    exact rf_days_no y m d w (by simpa using h)
end Go.Proofs.YtfbpadkjfdedeaaDoor
