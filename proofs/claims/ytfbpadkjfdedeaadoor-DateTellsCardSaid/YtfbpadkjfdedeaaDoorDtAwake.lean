/-
  Lemmas on the way to the date laws (DtAwake): what each function does, walked once, and plain laws of dates.
-/
import Derived.Test.YtfbpadkjfdedeaaDoorDtParse
import Derived.Test.YtfbpadkjfdedeaaDoorDtParseP2
import Derived.Test.YtfbpadkjfdedeaaDoorDtParseM2
import Derived.Test.YtfbpadkjfdedeaaDoorDtPrint
import Derived.Test.YtfbpadkjfdedeaaDoorMem2
set_option linter.unusedVariables false
set_option linter.unusedSimpArgs false
namespace Go.Proofs.YtfbpadkjfdedeaaDoor
open Go.RowKit
set_option maxRecDepth 100000
theorem parse_any (s : ByteArray) (w : World) :
    Calls Tryd.prog 13 #[.string s] w fun e w' => e = .returned (.tuple #[.int .i64 (DtCal.parse s.data.toList).1, .int .i64 (DtCal.parse s.data.toList).2]) ∧ Below w.heap.size w w' := by
  unfold DtCal.parse DtCal.shape
  simp only
  generalize h1 : DtCal.num s.data.toList false 4 [45] = r1
  obtain ⟨y, s1, b1⟩ := r1
  generalize h2 : DtCal.num s1 b1 2 [45] = r2
  obtain ⟨mo, s2, b2⟩ := r2
  generalize h3 : DtCal.num s2 b2 2 [84] = r3
  obtain ⟨d, s3, b3⟩ := r3
  generalize h4 : DtCal.num s3 b3 2 [58] = r4
  obtain ⟨h, s4, b4⟩ := r4
  generalize h5 : DtCal.num s4 b4 2 [58] = r5
  obtain ⟨m, s5, b5⟩ := r5
  generalize h6 : DtCal.num s5 b5 2 [] = r6
  obtain ⟨x, s6, b6⟩ := r6
  simp only
  unfold DtCal.zone
  by_cases hp : [43].isPrefixOf s6 = true
  · rw [if_pos hp]
    simp only [show ¬ ((-1 : Int) = 0) by decide, if_false]
    generalize h7 : DtCal.num (s6.drop 1) b6 2 [58] = r7
    obtain ⟨zh, s7, b7⟩ := r7
    generalize h8 : DtCal.num s7 b7 2 [] = r8
    obtain ⟨zm, s8, b8⟩ := r8
    exact parse_plus s w y mo d h m x s1 s2 s3 s4 s5 s6 b1 b2 b3 b4 b5 b6 h1 h2 h3 h4 h5 h6 hp zh zm s7 s8 b7 b8 h7 h8
  · rw [if_neg hp]
    by_cases hm : [45].isPrefixOf s6 = true
    · rw [if_pos hm]
      simp only [show ¬ ((1 : Int) = 0) by decide, if_false]
      generalize h7 : DtCal.num (s6.drop 1) b6 2 [58] = r7
      obtain ⟨zh, s7, b7⟩ := r7
      generalize h8 : DtCal.num s7 b7 2 [] = r8
      obtain ⟨zm, s8, b8⟩ := r8
      exact parse_minus s w y mo d h m x s1 s2 s3 s4 s5 s6 b1 b2 b3 b4 b5 b6 h1 h2 h3 h4 h5 h6 hm hp zh zm s7 s8 b7 b8 h7 h8
    · rw [if_neg hm, if_pos rfl]
      exact parse_none s w y mo d h m x s1 s2 s3 s4 s5 s6 b1 b2 b3 b4 b5 b6 h1 h2 h3 h4 h5 h6 hp hm
theorem aw_days (w : World) : Calls Tryd.prog 9 #[.agg #[.int .i64 2000, .int .i64 3, .int .i64 1]] w fun e w' => e = .returned (.tuple #[.int .i64 11017, .int .i64 0]) ∧ Below w.heap.size w w' := by
  have := days_any 2000 3 1 w
  rwa [show DtCal.days 2000 3 1 = (11017, 0) by decide] at this
theorem aw_of (w : World) : Calls Tryd.prog 11 #[.int .i64 11017] w fun e w' => e = .returned (.tuple #[.agg #[.int .i64 2000, .int .i64 3, .int .i64 1], .int .i64 0]) ∧ Below w.heap.size w w' := by
  have := of_yes 11017 w (by omega) (by omega)
  rw [DtCal.ofD_eq (n := 11017) (p := (2000, 3, 1)) ⟨by decide, by decide⟩] at this
  exact this.mono fun _ _ ⟨a, _, b⟩ => ⟨a, b⟩
theorem aw_parse1 (w : World) : Calls Tryd.prog 13 #[.string ⟨#[50, 48, 48, 48, 45, 48, 51, 45, 48, 49, 84, 48, 48, 58, 48, 48, 58, 48, 48, 43, 48, 49, 58, 48, 48]⟩] w fun e w' => e = .returned (.tuple #[.int .i64 951865200, .int .i64 0]) ∧ Below w.heap.size w w' := by
  have := parse_any ⟨#[50, 48, 48, 48, 45, 48, 51, 45, 48, 49, 84, 48, 48, 58, 48, 48, 58, 48, 48, 43, 48, 49, 58, 48, 48]⟩ w
  rwa [show DtCal.parse _ = (951865200, 0) by decide] at this
theorem aw_parse2 (w : World) : Calls Tryd.prog 13 #[.string ⟨#[120]⟩] w fun e w' => e = .returned (.tuple #[.int .i64 0, .int .i64 2]) ∧ Below w.heap.size w w' := by
  have := parse_any ⟨#[120]⟩ w
  rwa [show DtCal.parse _ = (0, 2) by decide] at this
theorem aw_parse3 (w : World) : Calls Tryd.prog 13 #[.string ⟨#[50, 48, 48, 49, 45, 48, 50, 45, 50, 57, 84, 48, 48, 58, 48, 48, 58, 48, 48, 90]⟩] w fun e w' => e = .returned (.tuple #[.int .i64 0, .int .i64 1]) ∧ Below w.heap.size w w' := by
  have := parse_any ⟨#[50, 48, 48, 49, 45, 48, 50, 45, 50, 57, 84, 48, 48, 58, 48, 48, 58, 48, 48, 90]⟩ w
  rwa [show DtCal.parse _ = (0, 1) by decide] at this
theorem aw_print (w : World) (ht : Tab w) : Calls Tryd.prog 15 #[.int .i64 951865200] w fun e w' => e = .returned (.tuple #[.string ⟨#[50, 48, 48, 48, 45, 48, 50, 45, 50, 57, 84, 50, 51, 58, 48, 48, 58, 48, 48, 90]⟩, .int .i64 0]) ∧ Below w.heap.size w w' := by
  have := print_yes 951865200 w (by omega) (by omega) ht
  have e : DtCal.text 951865200 = [50, 48, 48, 48, 45, 48, 50, 45, 50, 57, 84, 50, 51, 58, 48, 48, 58, 48, 48, 90] := by
    unfold DtCal.text
    rw [DtCal.ofD_eq (n := 951865200 / 86400) (p := (2000, 2, 29)) ⟨by decide, by decide⟩]
    decide
  rwa [e] at this
theorem aw_leap (w : World) : Calls Tryd.prog 17 #[.int .i64 2000] w fun e w' => e = .returned (.bool true) ∧ w' = w := leap_any 2000 w
theorem aw_len (w : World) : Calls Tryd.prog 19 #[.int .i64 1999, .int .i64 2] w fun e w' => e = .returned (.int .i64 28) ∧ Below w.heap.size w w' := len_any 1999 2 w
set_option maxHeartbeats 2000000 in
theorem awake_any (w : World) (ht : Tab w) : Calls Tryd.prog 8 #[] w fun e w' => e = .returned (.bool true) ∧ Below w.heap.size w w' := by
  have M := Mine.start w
  go_enter Tryd.func8, Tryd.ntmps8
  go_wp2_with (first
    | (go_at_call 9; (with_reducible refine (aw_days _).mono ?_); rintro e w1 ⟨rfl, hb⟩; have M2 := Mine.next (by first | exact M | exact Mine.alloc M _ _) hb; clear M; have M := M2; clear M2; clear hb; (try clear z0); (try clear z1); (try clear z2); (try (have z0 := Mine.at M 0 _ rfl; have z1 := Mine.at M 1 _ rfl; have z2 := Mine.at M 2 _ rfl)))
    | (go_at_call 11; (with_reducible refine (aw_of _).mono ?_); rintro e w1 ⟨rfl, hb⟩; have M2 := Mine.next (by first | exact M | exact Mine.alloc M _ _) hb; clear M; have M := M2; clear M2; clear hb; (try clear z0); (try clear z1); (try clear z2); (try (have z0 := Mine.at M 0 _ rfl; have z1 := Mine.at M 1 _ rfl; have z2 := Mine.at M 2 _ rfl)))
    | (go_at_call 13; (with_reducible refine (aw_parse1 _).mono ?_); rintro e w1 ⟨rfl, hb⟩; have M2 := Mine.next (by first | exact M | exact Mine.alloc M _ _) hb; clear M; have M := M2; clear M2; clear hb; (try clear z0); (try clear z1); (try clear z2); (try (have z0 := Mine.at M 0 _ rfl; have z1 := Mine.at M 1 _ rfl; have z2 := Mine.at M 2 _ rfl)))
    | (go_at_call 13; (with_reducible refine (aw_parse2 _).mono ?_); rintro e w1 ⟨rfl, hb⟩; have M2 := Mine.next (by first | exact M | exact Mine.alloc M _ _) hb; clear M; have M := M2; clear M2; clear hb; (try clear z0); (try clear z1); (try clear z2); (try (have z0 := Mine.at M 0 _ rfl; have z1 := Mine.at M 1 _ rfl; have z2 := Mine.at M 2 _ rfl)))
    | (go_at_call 13; (with_reducible refine (aw_parse3 _).mono ?_); rintro e w1 ⟨rfl, hb⟩; have M2 := Mine.next (by first | exact M | exact Mine.alloc M _ _) hb; clear M; have M := M2; clear M2; clear hb; (try clear z0); (try clear z1); (try clear z2); (try (have z0 := Mine.at M 0 _ rfl; have z1 := Mine.at M 1 _ rfl; have z2 := Mine.at M 2 _ rfl)))
    | (go_at_call 19; (with_reducible refine (aw_len _).mono ?_); rintro e w1 ⟨rfl, hb⟩; have M2 := Mine.next (by first | exact M | exact Mine.alloc M _ _) hb; clear M; have M := M2; clear M2; clear hb; (try clear z0); (try clear z1); (try clear z2); (try (have z0 := Mine.at M 0 _ rfl; have z1 := Mine.at M 1 _ rfl; have z2 := Mine.at M 2 _ rfl)))
    | (go_at_call 15; refine (aw_print _ (Tab.next ht (Mine.low (by first | exact M | exact Mine.alloc M _ _)))).mono ?_; rintro e w1 ⟨rfl, hb⟩; have M2 := Mine.next (by first | exact M | exact Mine.alloc M _ _) hb; clear M; have M := M2; clear M2; clear hb; (try clear z0); (try clear z1); (try clear z2); (try (have z0 := Mine.at M 0 _ rfl; have z1 := Mine.at M 1 _ rfl; have z2 := Mine.at M 2 _ rfl)))
    | (go_at_call 17; refine (aw_leap _).mono ?_; rintro e wx ⟨rfl, rfl⟩))
  all_goals
    go_ret
    exact ⟨rfl, M.low⟩
end Go.Proofs.YtfbpadkjfdedeaaDoor
