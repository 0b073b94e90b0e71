/-
  Walks of the date laws.
-/
import Derived.Test.YtfbpadkjfdedeaaDoorDtAwake
import Derived.Test.YtfbpadkjfdedeaaDoorDtLaw
namespace Go.Proofs.YtfbpadkjfdedeaaDoor
open Go.RowKit
set_option linter.unusedVariables false
set_option linter.unusedSimpArgs false
set_option maxRecDepth 100000
theorem of_is (n y m d : Int) (h : DtCal.IsDate n (y, m, d)) (w : World) :
    Calls Tryd.prog 11 #[.int .i64 n] w fun e w' => e = .returned (.tuple #[.agg #[.int .i64 y, .int .i64 m, .int .i64 d], .int .i64 0]) ∧ Below w.heap.size w w' := by
  have hr := DtCal.days_range h.1
  rw [h.2] at hr
  have := of_yes n w hr.1 hr.2
  rw [DtCal.ofD_eq h] at this
  exact this.mono fun _ _ ⟨a, _, b⟩ => ⟨a, b⟩
set_option maxHeartbeats 4000000 in
theorem grows_in (n t more : Int) (w : World) (ht : Tab w) (h0 : 0 ≤ n) (h1 : n ≤ 2932894) (h2 : 0 ≤ t) (h3 : 1 ≤ more) (h4 : t ≤ 253402300799) (h5 : more ≤ 253402300799 - t)
    (y m d y' m' d' : Int) (hd : DtCal.IsDate n (y, m, d)) (hd' : DtCal.IsDate (n + 1) (y', m', d')) (l : Int) (hl : DtCal.len y m = l)
    (hn : (d < l ∧ y' = y ∧ m' = m ∧ d' = d + 1) ∨ (¬ d < l ∧ m < 12 ∧ y' = y ∧ m' = m + 1 ∧ d' = 1) ∨ (¬ d < l ∧ ¬ m < 12 ∧ y' = y + 1 ∧ m' = 1 ∧ d' = 1)) :
    Calls Tryd.prog 5 #[.int .i64 n, .int .i64 t, .int .i64 more] w fun e w' => e = .returned (.bool true) ∧ Below w.heap.size w w' := by
  have hb := DtCal.date_bounds hd
  simp only at hb
  have hlen : ∀ W, Calls Tryd.prog 19 #[.int .i64 y, .int .i64 m] W fun e w' => e = .returned (.int .i64 l) ∧ Below W.heap.size W w' := fun W => hl ▸ len_any y m W
  have hless : Op.bytesLess (DtCal.text t) (DtCal.text (t + more)) = true := DtCal.text_lt h2 (by omega) (by omega)
  clear hl
  rcases hn with ⟨k1, e1, e2, e3⟩ | ⟨k1, k2, e1, e2, e3⟩ | ⟨k1, k2, e1, e2, e3⟩
  · skip
    have M := Mine.start w
    go_enter Tryd.func5, Tryd.ntmps5
    go_wp2_with (first
      | (go_at_call 8; refine (awake_any _ (Tab.next ht (Mine.low (by first | exact M | exact Mine.alloc M _ _ | exact Mine.alloc (Mine.alloc M _ _) _ _ | exact Mine.drewN M _)))).mono ?_; rintro e w1 ⟨rfl, hb⟩; have M2 := Mine.next (by first | exact M | exact Mine.alloc M _ _ | exact Mine.alloc (Mine.alloc M _ _) _ _ | exact Mine.drewN M _) hb; clear M; have M := M2; clear M2; clear hb; (try clear z00); (try clear z01); (try clear z02); (try clear zl0); (try clear z10); (try clear z11); (try clear z12); (try clear zl1); (try (have z00 := Mine.at M 0 _ rfl; have z01 := Mine.at M 1 _ rfl; have z02 := Mine.at M 2 _ rfl; have zl0 := Mine.lt M)); (try (have z10 := Mine.at M.drop 0 _ rfl; have z11 := Mine.at M.drop 1 _ rfl; have z12 := Mine.at M.drop 2 _ rfl; have zl1 := Mine.lt M.drop)))
      | (go_at_call 11; (with_reducible refine (of_is n y m d hd _).mono ?_); rintro e wA ⟨rfl, hb⟩; have M2 := Mine.next (by first | exact M | exact Mine.alloc M _ _ | exact Mine.alloc (Mine.alloc M _ _) _ _ | exact Mine.drewN M _) hb; clear M; have M := M2; clear M2; clear hb; (try clear z00); (try clear z01); (try clear z02); (try clear zl0); (try clear z10); (try clear z11); (try clear z12); (try clear zl1); (try (have z00 := Mine.at M 0 _ rfl; have z01 := Mine.at M 1 _ rfl; have z02 := Mine.at M 2 _ rfl; have zl0 := Mine.lt M)); (try (have z10 := Mine.at M.drop 0 _ rfl; have z11 := Mine.at M.drop 1 _ rfl; have z12 := Mine.at M.drop 2 _ rfl; have zl1 := Mine.lt M.drop)))
      | (go_at_call 11; (with_reducible refine (of_is (n + 1) y' m' d' hd' _).mono ?_); rintro e wB ⟨rfl, hb⟩; have M2 := Mine.next (by first | exact M | exact Mine.alloc M _ _ | exact Mine.alloc (Mine.alloc M _ _) _ _ | exact Mine.drewN M _) hb; clear M; have M := M2; clear M2; clear hb; (try clear z00); (try clear z01); (try clear z02); (try clear zl0); (try clear z10); (try clear z11); (try clear z12); (try clear zl1); (try (have z00 := Mine.at M 0 _ rfl; have z01 := Mine.at M 1 _ rfl; have z02 := Mine.at M 2 _ rfl; have zl0 := Mine.lt M)); (try (have z10 := Mine.at M.drop 0 _ rfl; have z11 := Mine.at M.drop 1 _ rfl; have z12 := Mine.at M.drop 2 _ rfl; have zl1 := Mine.lt M.drop)))
      | (go_at_call 15; refine (print_yes _ _ (by omega) (by omega) (Tab.next ht (Mine.low (by first | exact M | exact Mine.alloc M _ _ | exact Mine.alloc (Mine.alloc M _ _) _ _ | exact Mine.drewN M _)))).mono ?_; rintro e w1 ⟨rfl, hb⟩; have M2 := Mine.next (by first | exact M | exact Mine.alloc M _ _ | exact Mine.alloc (Mine.alloc M _ _) _ _ | exact Mine.drewN M _) hb; clear M; have M := M2; clear M2; clear hb; (try clear z00); (try clear z01); (try clear z02); (try clear zl0); (try clear z10); (try clear z11); (try clear z12); (try clear zl1); (try (have z00 := Mine.at M 0 _ rfl; have z01 := Mine.at M 1 _ rfl; have z02 := Mine.at M 2 _ rfl; have zl0 := Mine.lt M)); (try (have z10 := Mine.at M.drop 0 _ rfl; have z11 := Mine.at M.drop 1 _ rfl; have z12 := Mine.at M.drop 2 _ rfl; have zl1 := Mine.lt M.drop))))
    go_region_held3 (fun w' => w'.cell? ⟨wA.heap.size, 0, none⟩ = some (.int .i64 y) ∧ w'.cell? ⟨wA.heap.size, 1, none⟩ = some (.int .i64 m) ∧ w'.cell? ⟨wA.heap.size, 2, none⟩ = some (.int .i64 d) ∧ Mine w [(wB.heap.size, #[.int .i64 y, .int .i64 m, .int .i64 (d + 1)], 23), (wA.heap.size, #[.int .i64 y, .int .i64 m, .int .i64 d], 23)] w')
      (first | exact ⟨by go_simp, by go_simp, by go_simp, Mine.drewN M 1⟩ | assumption | exact ⟨Mine.at (Mine.next (‹_ ∧ _ ∧ _ ∧ Mine _ _ _›).2.2.2 hb).drop 0 _ rfl, Mine.at (Mine.next (‹_ ∧ _ ∧ _ ∧ Mine _ _ _›).2.2.2 hb).drop 1 _ rfl, Mine.at (Mine.next (‹_ ∧ _ ∧ _ ∧ Mine _ _ _›).2.2.2 hb).drop 2 _ rfl, Mine.next (‹_ ∧ _ ∧ _ ∧ Mine _ _ _›).2.2.2 hb⟩)
      (first | (go_at_call 19; refine (hlen _).mono ?_; rintro e w2 ⟨rfl, hb⟩))
    have M := (‹_ ∧ _ ∧ _ ∧ Mine _ _ _›).2.2.2
    have z00 := Mine.at M 0 _ rfl
    have z01 := Mine.at M 1 _ rfl
    have z02 := Mine.at M 2 _ rfl
    have z10 := Mine.at M.drop 0 _ rfl
    have z11 := Mine.at M.drop 1 _ rfl
    have z12 := Mine.at M.drop 2 _ rfl
    go_wp2
    go_ret
    exact ⟨rfl, M.low⟩
  · skip
    have M := Mine.start w
    go_enter Tryd.func5, Tryd.ntmps5
    go_wp2_with (first
      | (go_at_call 8; refine (awake_any _ (Tab.next ht (Mine.low (by first | exact M | exact Mine.alloc M _ _ | exact Mine.alloc (Mine.alloc M _ _) _ _ | exact Mine.drewN M _)))).mono ?_; rintro e w1 ⟨rfl, hb⟩; have M2 := Mine.next (by first | exact M | exact Mine.alloc M _ _ | exact Mine.alloc (Mine.alloc M _ _) _ _ | exact Mine.drewN M _) hb; clear M; have M := M2; clear M2; clear hb; (try clear z00); (try clear z01); (try clear z02); (try clear zl0); (try clear z10); (try clear z11); (try clear z12); (try clear zl1); (try (have z00 := Mine.at M 0 _ rfl; have z01 := Mine.at M 1 _ rfl; have z02 := Mine.at M 2 _ rfl; have zl0 := Mine.lt M)); (try (have z10 := Mine.at M.drop 0 _ rfl; have z11 := Mine.at M.drop 1 _ rfl; have z12 := Mine.at M.drop 2 _ rfl; have zl1 := Mine.lt M.drop)))
      | (go_at_call 11; (with_reducible refine (of_is n y m d hd _).mono ?_); rintro e wA ⟨rfl, hb⟩; have M2 := Mine.next (by first | exact M | exact Mine.alloc M _ _ | exact Mine.alloc (Mine.alloc M _ _) _ _ | exact Mine.drewN M _) hb; clear M; have M := M2; clear M2; clear hb; (try clear z00); (try clear z01); (try clear z02); (try clear zl0); (try clear z10); (try clear z11); (try clear z12); (try clear zl1); (try (have z00 := Mine.at M 0 _ rfl; have z01 := Mine.at M 1 _ rfl; have z02 := Mine.at M 2 _ rfl; have zl0 := Mine.lt M)); (try (have z10 := Mine.at M.drop 0 _ rfl; have z11 := Mine.at M.drop 1 _ rfl; have z12 := Mine.at M.drop 2 _ rfl; have zl1 := Mine.lt M.drop)))
      | (go_at_call 11; (with_reducible refine (of_is (n + 1) y' m' d' hd' _).mono ?_); rintro e wB ⟨rfl, hb⟩; have M2 := Mine.next (by first | exact M | exact Mine.alloc M _ _ | exact Mine.alloc (Mine.alloc M _ _) _ _ | exact Mine.drewN M _) hb; clear M; have M := M2; clear M2; clear hb; (try clear z00); (try clear z01); (try clear z02); (try clear zl0); (try clear z10); (try clear z11); (try clear z12); (try clear zl1); (try (have z00 := Mine.at M 0 _ rfl; have z01 := Mine.at M 1 _ rfl; have z02 := Mine.at M 2 _ rfl; have zl0 := Mine.lt M)); (try (have z10 := Mine.at M.drop 0 _ rfl; have z11 := Mine.at M.drop 1 _ rfl; have z12 := Mine.at M.drop 2 _ rfl; have zl1 := Mine.lt M.drop)))
      | (go_at_call 15; refine (print_yes _ _ (by omega) (by omega) (Tab.next ht (Mine.low (by first | exact M | exact Mine.alloc M _ _ | exact Mine.alloc (Mine.alloc M _ _) _ _ | exact Mine.drewN M _)))).mono ?_; rintro e w1 ⟨rfl, hb⟩; have M2 := Mine.next (by first | exact M | exact Mine.alloc M _ _ | exact Mine.alloc (Mine.alloc M _ _) _ _ | exact Mine.drewN M _) hb; clear M; have M := M2; clear M2; clear hb; (try clear z00); (try clear z01); (try clear z02); (try clear zl0); (try clear z10); (try clear z11); (try clear z12); (try clear zl1); (try (have z00 := Mine.at M 0 _ rfl; have z01 := Mine.at M 1 _ rfl; have z02 := Mine.at M 2 _ rfl; have zl0 := Mine.lt M)); (try (have z10 := Mine.at M.drop 0 _ rfl; have z11 := Mine.at M.drop 1 _ rfl; have z12 := Mine.at M.drop 2 _ rfl; have zl1 := Mine.lt M.drop))))
    go_region_held3 (fun w' => w'.cell? ⟨wA.heap.size, 0, none⟩ = some (.int .i64 y) ∧ w'.cell? ⟨wA.heap.size, 1, none⟩ = some (.int .i64 m) ∧ w'.cell? ⟨wA.heap.size, 2, none⟩ = some (.int .i64 d) ∧ Mine w [(wB.heap.size, #[.int .i64 y, .int .i64 (m + 1), .int .i64 1], 23), (wA.heap.size, #[.int .i64 y, .int .i64 m, .int .i64 d], 23)] w')
      (first | exact ⟨by go_simp, by go_simp, by go_simp, Mine.drewN M 1⟩ | assumption | exact ⟨Mine.at (Mine.next (‹_ ∧ _ ∧ _ ∧ Mine _ _ _›).2.2.2 hb).drop 0 _ rfl, Mine.at (Mine.next (‹_ ∧ _ ∧ _ ∧ Mine _ _ _›).2.2.2 hb).drop 1 _ rfl, Mine.at (Mine.next (‹_ ∧ _ ∧ _ ∧ Mine _ _ _›).2.2.2 hb).drop 2 _ rfl, Mine.next (‹_ ∧ _ ∧ _ ∧ Mine _ _ _›).2.2.2 hb⟩)
      (first | (go_at_call 19; refine (hlen _).mono ?_; rintro e w2 ⟨rfl, hb⟩))
    have M := (‹_ ∧ _ ∧ _ ∧ Mine _ _ _›).2.2.2
    have z00 := Mine.at M 0 _ rfl
    have z01 := Mine.at M 1 _ rfl
    have z02 := Mine.at M 2 _ rfl
    have z10 := Mine.at M.drop 0 _ rfl
    have z11 := Mine.at M.drop 1 _ rfl
    have z12 := Mine.at M.drop 2 _ rfl
    go_wp2
    go_ret
    exact ⟨rfl, M.low⟩
  · skip
    have M := Mine.start w
    go_enter Tryd.func5, Tryd.ntmps5
    go_wp2_with (first
      | (go_at_call 8; refine (awake_any _ (Tab.next ht (Mine.low (by first | exact M | exact Mine.alloc M _ _ | exact Mine.alloc (Mine.alloc M _ _) _ _ | exact Mine.drewN M _)))).mono ?_; rintro e w1 ⟨rfl, hb⟩; have M2 := Mine.next (by first | exact M | exact Mine.alloc M _ _ | exact Mine.alloc (Mine.alloc M _ _) _ _ | exact Mine.drewN M _) hb; clear M; have M := M2; clear M2; clear hb; (try clear z00); (try clear z01); (try clear z02); (try clear zl0); (try clear z10); (try clear z11); (try clear z12); (try clear zl1); (try (have z00 := Mine.at M 0 _ rfl; have z01 := Mine.at M 1 _ rfl; have z02 := Mine.at M 2 _ rfl; have zl0 := Mine.lt M)); (try (have z10 := Mine.at M.drop 0 _ rfl; have z11 := Mine.at M.drop 1 _ rfl; have z12 := Mine.at M.drop 2 _ rfl; have zl1 := Mine.lt M.drop)))
      | (go_at_call 11; (with_reducible refine (of_is n y m d hd _).mono ?_); rintro e wA ⟨rfl, hb⟩; have M2 := Mine.next (by first | exact M | exact Mine.alloc M _ _ | exact Mine.alloc (Mine.alloc M _ _) _ _ | exact Mine.drewN M _) hb; clear M; have M := M2; clear M2; clear hb; (try clear z00); (try clear z01); (try clear z02); (try clear zl0); (try clear z10); (try clear z11); (try clear z12); (try clear zl1); (try (have z00 := Mine.at M 0 _ rfl; have z01 := Mine.at M 1 _ rfl; have z02 := Mine.at M 2 _ rfl; have zl0 := Mine.lt M)); (try (have z10 := Mine.at M.drop 0 _ rfl; have z11 := Mine.at M.drop 1 _ rfl; have z12 := Mine.at M.drop 2 _ rfl; have zl1 := Mine.lt M.drop)))
      | (go_at_call 11; (with_reducible refine (of_is (n + 1) y' m' d' hd' _).mono ?_); rintro e wB ⟨rfl, hb⟩; have M2 := Mine.next (by first | exact M | exact Mine.alloc M _ _ | exact Mine.alloc (Mine.alloc M _ _) _ _ | exact Mine.drewN M _) hb; clear M; have M := M2; clear M2; clear hb; (try clear z00); (try clear z01); (try clear z02); (try clear zl0); (try clear z10); (try clear z11); (try clear z12); (try clear zl1); (try (have z00 := Mine.at M 0 _ rfl; have z01 := Mine.at M 1 _ rfl; have z02 := Mine.at M 2 _ rfl; have zl0 := Mine.lt M)); (try (have z10 := Mine.at M.drop 0 _ rfl; have z11 := Mine.at M.drop 1 _ rfl; have z12 := Mine.at M.drop 2 _ rfl; have zl1 := Mine.lt M.drop)))
      | (go_at_call 15; refine (print_yes _ _ (by omega) (by omega) (Tab.next ht (Mine.low (by first | exact M | exact Mine.alloc M _ _ | exact Mine.alloc (Mine.alloc M _ _) _ _ | exact Mine.drewN M _)))).mono ?_; rintro e w1 ⟨rfl, hb⟩; have M2 := Mine.next (by first | exact M | exact Mine.alloc M _ _ | exact Mine.alloc (Mine.alloc M _ _) _ _ | exact Mine.drewN M _) hb; clear M; have M := M2; clear M2; clear hb; (try clear z00); (try clear z01); (try clear z02); (try clear zl0); (try clear z10); (try clear z11); (try clear z12); (try clear zl1); (try (have z00 := Mine.at M 0 _ rfl; have z01 := Mine.at M 1 _ rfl; have z02 := Mine.at M 2 _ rfl; have zl0 := Mine.lt M)); (try (have z10 := Mine.at M.drop 0 _ rfl; have z11 := Mine.at M.drop 1 _ rfl; have z12 := Mine.at M.drop 2 _ rfl; have zl1 := Mine.lt M.drop))))
    go_region_held3 (fun w' => w'.cell? ⟨wA.heap.size, 0, none⟩ = some (.int .i64 y) ∧ w'.cell? ⟨wA.heap.size, 1, none⟩ = some (.int .i64 m) ∧ w'.cell? ⟨wA.heap.size, 2, none⟩ = some (.int .i64 d) ∧ Mine w [(wB.heap.size, #[.int .i64 (y + 1), .int .i64 1, .int .i64 1], 23), (wA.heap.size, #[.int .i64 y, .int .i64 m, .int .i64 d], 23)] w')
      (first | exact ⟨by go_simp, by go_simp, by go_simp, Mine.drewN M 1⟩ | assumption | exact ⟨Mine.at (Mine.next (‹_ ∧ _ ∧ _ ∧ Mine _ _ _›).2.2.2 hb).drop 0 _ rfl, Mine.at (Mine.next (‹_ ∧ _ ∧ _ ∧ Mine _ _ _›).2.2.2 hb).drop 1 _ rfl, Mine.at (Mine.next (‹_ ∧ _ ∧ _ ∧ Mine _ _ _›).2.2.2 hb).drop 2 _ rfl, Mine.next (‹_ ∧ _ ∧ _ ∧ Mine _ _ _›).2.2.2 hb⟩)
      (first | (go_at_call 19; refine (hlen _).mono ?_; rintro e w2 ⟨rfl, hb⟩))
    have M := (‹_ ∧ _ ∧ _ ∧ Mine _ _ _›).2.2.2
    have z00 := Mine.at M 0 _ rfl
    have z01 := Mine.at M 1 _ rfl
    have z02 := Mine.at M 2 _ rfl
    have z10 := Mine.at M.drop 0 _ rfl
    have z11 := Mine.at M.drop 1 _ rfl
    have z12 := Mine.at M.drop 2 _ rfl
    go_wp2
    go_ret
    exact ⟨rfl, M.low⟩
theorem grows_out (n t more : Int) (w : World) (ht : Tab w) (h : n < 0 ∨ 2932894 < n ∨ t < 0 ∨ more < 1 ∨ 253402300799 < t ∨ (0 ≤ t ∧ t ≤ 253402300799 ∧ 253402300799 - t < more)) :
    Calls Tryd.prog 5 #[.int .i64 n, .int .i64 t, .int .i64 more] w fun e w' => e = .returned (.bool true) ∧ Below w.heap.size w w' := by
  rcases h with h | h | h | h | h | ⟨h1, h2, h⟩
  all_goals
    have M := Mine.start w
    go_enter Tryd.func5, Tryd.ntmps5
    go_wp2_with (first
      | (go_at_call 8; refine (awake_any _ (Tab.next ht (Mine.low (by first | exact M | exact Mine.alloc M _ _ | exact Mine.alloc (Mine.alloc M _ _) _ _ | exact Mine.drewN M _)))).mono ?_; rintro e w1 ⟨rfl, hb⟩; have M2 := Mine.next (by first | exact M | exact Mine.alloc M _ _ | exact Mine.alloc (Mine.alloc M _ _) _ _ | exact Mine.drewN M _) hb; clear M; have M := M2; clear M2; clear hb; ))
    all_goals
      go_ret
      exact ⟨rfl, M.low⟩
theorem grows_any (n : Int) (_w0 : (Lit.int .i64 n).wf = true) (t : Int) (_w1 : (Lit.int .i64 t).wf = true) (more : Int) (_w2 : (Lit.int .i64 more).wf = true) (w : World) (ht : Tab w) :
    Calls Tryd.prog 5 #[.int .i64 n, .int .i64 t, .int .i64 more] w fun e w' => e = .returned (.bool true) ∧ Below w.heap.size w w' := by
  by_cases h : n < 0 ∨ 2932894 < n ∨ t < 0 ∨ more < 1 ∨ 253402300799 < t ∨ (0 ≤ t ∧ t ≤ 253402300799 ∧ 253402300799 - t < more)
  · exact grows_out n t more w ht h
  · rcases hp : DtCal.ofD n with ⟨y, m, d⟩
    have hd := DtCal.ofD_is n (by omega) (by omega)
    rw [hp] at hd
    have hd' := DtCal.next_day hd (by omega)
    by_cases k1 : d < DtCal.len y m
    · rw [if_pos k1] at hd'
      exact grows_in n t more w ht (by omega) (by omega) (by omega) (by omega) (by omega) (by omega) y m d y m (d + 1) hd hd' _ rfl (.inl ⟨k1, rfl, rfl, rfl⟩)
    · rw [if_neg k1] at hd'
      by_cases k2 : m < 12
      · rw [if_pos k2] at hd'
        exact grows_in n t more w ht (by omega) (by omega) (by omega) (by omega) (by omega) (by omega) y m d y (m + 1) 1 hd hd' _ rfl (.inr (.inl ⟨k1, k2, rfl, rfl, rfl⟩))
      · rw [if_neg k2] at hd'
        exact grows_in n t more w ht (by omega) (by omega) (by omega) (by omega) (by omega) (by omega) y m d (y + 1) 1 1 hd hd' _ rfl (.inr (.inr ⟨k1, k2, rfl, rfl, rfl⟩))
end Go.Proofs.YtfbpadkjfdedeaaDoor
