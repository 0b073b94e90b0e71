/-
  Lemmas on the way to DateTells (RfParM): the walk of the reference's Parse.
-/
import Derived.Test.YtfbpadkjfdedeaaDoorRfParN
import Derived.Test.YtfbpadkjfdedeaaDoorRfDays
import Derived.Test.YtfbpadkjfdedeaaDoorQuiet
import Derived.Deep.QuietTactic
import Derived.BigQuiet
import Derived.Deep.RegionHeld3
set_option linter.unusedVariables false
set_option linter.unusedSimpArgs false
namespace Go.Proofs.YtfbpadkjfdedeaaDoor
open Go.RowKit
set_option maxRecDepth 100000
set_option maxHeartbeats 4000000 in
theorem rf_parse_M (s : ByteArray) (w : World) (hsz : s.size = 25) (y mo d h m x zh zm : Int) (S0 : ∀ W, Calls Tryd.prog 28 #[.string s, .string ⟨#[48, 48, 48, 48, 45, 48, 48, 45, 48, 48, 84, 48, 48, 58, 48, 48, 58, 48, 48, 90]⟩] W fun e w' => e = .returned (.bool false) ∧ Below W.heap.size W w') (SP : ∀ W, Calls Tryd.prog 28 #[.string s, .string ⟨#[48, 48, 48, 48, 45, 48, 48, 45, 48, 48, 84, 48, 48, 58, 48, 48, 58, 48, 48, 43, 48, 48, 58, 48, 48]⟩] W fun e w' => e = .returned (.bool false) ∧ Below W.heap.size W w') (SM : ∀ W, Calls Tryd.prog 28 #[.string s, .string ⟨#[48, 48, 48, 48, 45, 48, 48, 45, 48, 48, 84, 48, 48, 58, 48, 48, 58, 48, 48, 45, 48, 48, 58, 48, 48]⟩] W fun e w' => e = .returned (.bool true) ∧ Below W.heap.size W w')
    (N1 : ∀ W, Calls Tryd.prog 29 #[.string (s.extract 0 4)] W fun e w' => e = .returned (.int .i64 y) ∧ w' = W) (n1a : 0 ≤ y) (n1b : y ≤ 9999) (N2 : ∀ W, Calls Tryd.prog 29 #[.string (s.extract 5 7)] W fun e w' => e = .returned (.int .i64 mo) ∧ w' = W) (n2a : 0 ≤ mo) (n2b : mo ≤ 99) (N3 : ∀ W, Calls Tryd.prog 29 #[.string (s.extract 8 10)] W fun e w' => e = .returned (.int .i64 d) ∧ w' = W) (n3a : 0 ≤ d) (n3b : d ≤ 99) (N4 : ∀ W, Calls Tryd.prog 29 #[.string (s.extract 11 13)] W fun e w' => e = .returned (.int .i64 h) ∧ w' = W) (n4a : 0 ≤ h) (n4b : h ≤ 99) (N5 : ∀ W, Calls Tryd.prog 29 #[.string (s.extract 14 16)] W fun e w' => e = .returned (.int .i64 m) ∧ w' = W) (n5a : 0 ≤ m) (n5b : m ≤ 99) (N6 : ∀ W, Calls Tryd.prog 29 #[.string (s.extract 17 19)] W fun e w' => e = .returned (.int .i64 x) ∧ w' = W) (n6a : 0 ≤ x) (n6b : x ≤ 99) (N7 : ∀ W, Calls Tryd.prog 29 #[.string (s.extract 20 22)] W fun e w' => e = .returned (.int .i64 zh) ∧ w' = W) (n7a : 0 ≤ zh) (n7b : zh ≤ 99) (N8 : ∀ W, Calls Tryd.prog 29 #[.string (s.extract 23 25)] W fun e w' => e = .returned (.int .i64 zm) ∧ w' = W) (n8a : 0 ≤ zm) (n8b : zm ≤ 99) :
    Calls Tryd.prog 14 #[.string s] w fun e w' => e = .returned (.tuple #[.int .i64 (DtCal.parse2 y mo d h m x (1, zh, zm, false)).1, .int .i64 (DtCal.parse2 y mo d h m x (1, zh, zm, false)).2]) ∧ Below w.heap.size w w' := by
  unfold DtCal.parse2 DtCal.time
  simp only [Bool.false_eq_true, if_false]
  have D := DtCal.days_bd y mo d
  have DE := DtCal.days_err y mo d
  have hdays := fun W => rf_days y mo d W
  generalize DtCal.days y mo d = dd at *
  obtain ⟨n, er⟩ := dd
  simp only at D DE hdays ⊢
  obtain ⟨D1, D2⟩ := D
  by_cases hc : er ≠ 0 ∨ h > 23 ∨ m > 59 ∨ x > 59 ∨ zh > 23 ∨ zm > 59 ∨ n * 86400 + h * 3600 + m * 60 + x + 1 * (zh * 3600 + zm * 60) < 0 ∨ n * 86400 + h * 3600 + m * 60 + x + 1 * (zh * 3600 + zm * 60) ≥ 253402300800
  · rw [if_pos hc]
    go_enter Tryd.func14, Tryd.ntmps14
    have hbw : Below w.heap.size w w := Below.refl _ _
    go_wp2_with (first | (go_at_call 28; (with_reducible refine (S0 _).mono ?_); rintro e w1 ⟨rfl, hb1⟩; have hbw := Below.next hbw hb1 (Nat.le_refl _)) | (go_at_call 28; (with_reducible refine (SP _).mono ?_); rintro e w1 ⟨rfl, hb1⟩; have hbw := Below.next hbw hb1 (Nat.le_refl _)) | (go_at_call 28; (with_reducible refine (SM _).mono ?_); rintro e w1 ⟨rfl, hb1⟩; have hbw := Below.next hbw hb1 (Nat.le_refl _)))
    have hbw := hbw.drew
    go_region_held3 (fun w' => Below w.heap.size w w') (first | exact hbw | assumption | exact Below.next (‹Below w.heap.size w _›) hb2 (Nat.le_refl _)) (first | (go_at_call 29; (with_reducible refine (N1 _).mono ?_); rintro e w2 ⟨rfl, rfl⟩) | (go_at_call 29; (with_reducible refine (N2 _).mono ?_); rintro e w2 ⟨rfl, rfl⟩) | (go_at_call 29; (with_reducible refine (N3 _).mono ?_); rintro e w2 ⟨rfl, rfl⟩) | (go_at_call 29; (with_reducible refine (N4 _).mono ?_); rintro e w2 ⟨rfl, rfl⟩) | (go_at_call 29; (with_reducible refine (N5 _).mono ?_); rintro e w2 ⟨rfl, rfl⟩) | (go_at_call 29; (with_reducible refine (N6 _).mono ?_); rintro e w2 ⟨rfl, rfl⟩) | (go_at_call 10; (with_reducible refine (hdays _).mono ?_); rintro e w2 ⟨rfl, hb2⟩))
    go_wp2
    go_quiet ((first | (go_at_call 29; with_reducible exact Calls.quiet_of_same (N1 _)) | (go_at_call 29; with_reducible exact Calls.quiet_of_same (N2 _)) | (go_at_call 29; with_reducible exact Calls.quiet_of_same (N3 _)) | (go_at_call 29; with_reducible exact Calls.quiet_of_same (N4 _)) | (go_at_call 29; with_reducible exact Calls.quiet_of_same (N5 _)) | (go_at_call 29; with_reducible exact Calls.quiet_of_same (N6 _))))
    go_wp2
    all_goals (try (go_quiet ((first | (go_at_call 29; with_reducible exact quiet_add_same (N7 _)) | (go_at_call 29; with_reducible exact quiet_add_same (N8 _))))))
    all_goals (try go_wp2)
    all_goals first
      | (go_ret2; exact ⟨rfl, by first | assumption | exact pw_below_drewN (by assumption) _ | exact pw_below_drewN (pw_below_drewN (by assumption) _) _⟩)
      | (go_ret2; exact ⟨congrArg (fun z => Ending.returned (.tuple #[.int .i64 z, .int .i64 0])) (by omega), by first | assumption | exact pw_below_drewN (by assumption) _ | exact pw_below_drewN (pw_below_drewN (by assumption) _) _⟩)
      | (exfalso; omega)
  · rw [if_neg hc]
    go_enter Tryd.func14, Tryd.ntmps14
    have hbw : Below w.heap.size w w := Below.refl _ _
    go_wp2_with (first | (go_at_call 28; (with_reducible refine (S0 _).mono ?_); rintro e w1 ⟨rfl, hb1⟩; have hbw := Below.next hbw hb1 (Nat.le_refl _)) | (go_at_call 28; (with_reducible refine (SP _).mono ?_); rintro e w1 ⟨rfl, hb1⟩; have hbw := Below.next hbw hb1 (Nat.le_refl _)) | (go_at_call 28; (with_reducible refine (SM _).mono ?_); rintro e w1 ⟨rfl, hb1⟩; have hbw := Below.next hbw hb1 (Nat.le_refl _)))
    have hbw := hbw.drew
    go_region_held3 (fun w' => Below w.heap.size w w') (first | exact hbw | assumption | exact Below.next (‹Below w.heap.size w _›) hb2 (Nat.le_refl _)) (first | (go_at_call 29; (with_reducible refine (N1 _).mono ?_); rintro e w2 ⟨rfl, rfl⟩) | (go_at_call 29; (with_reducible refine (N2 _).mono ?_); rintro e w2 ⟨rfl, rfl⟩) | (go_at_call 29; (with_reducible refine (N3 _).mono ?_); rintro e w2 ⟨rfl, rfl⟩) | (go_at_call 29; (with_reducible refine (N4 _).mono ?_); rintro e w2 ⟨rfl, rfl⟩) | (go_at_call 29; (with_reducible refine (N5 _).mono ?_); rintro e w2 ⟨rfl, rfl⟩) | (go_at_call 29; (with_reducible refine (N6 _).mono ?_); rintro e w2 ⟨rfl, rfl⟩) | (go_at_call 10; (with_reducible refine (hdays _).mono ?_); rintro e w2 ⟨rfl, hb2⟩))
    go_wp2
    go_quiet ((first | (go_at_call 29; with_reducible exact Calls.quiet_of_same (N1 _)) | (go_at_call 29; with_reducible exact Calls.quiet_of_same (N2 _)) | (go_at_call 29; with_reducible exact Calls.quiet_of_same (N3 _)) | (go_at_call 29; with_reducible exact Calls.quiet_of_same (N4 _)) | (go_at_call 29; with_reducible exact Calls.quiet_of_same (N5 _)) | (go_at_call 29; with_reducible exact Calls.quiet_of_same (N6 _))))
    go_wp2
    all_goals (try (go_quiet ((first | (go_at_call 29; with_reducible exact quiet_add_same (N7 _)) | (go_at_call 29; with_reducible exact quiet_add_same (N8 _))))))
    all_goals (try go_wp2)
    all_goals first
      | (go_ret2; exact ⟨rfl, by first | assumption | exact pw_below_drewN (by assumption) _ | exact pw_below_drewN (pw_below_drewN (by assumption) _) _⟩)
      | (go_ret2; exact ⟨congrArg (fun z => Ending.returned (.tuple #[.int .i64 z, .int .i64 0])) (by omega), by first | assumption | exact pw_below_drewN (by assumption) _ | exact pw_below_drewN (pw_below_drewN (by assumption) _) _⟩)
      | (exfalso; omega)
end Go.Proofs.YtfbpadkjfdedeaaDoor
