/-
  The law JudgeWaits returns true, whatever the plan and the tries.
-/
import Derived.Test.YtojmcejkfeaccaaJdAw1
import Derived.Test.YtojmcejkfeaccaaStep
import Derived.Test.YtojmcejkfeaccaaJdSame
import Derived.Deep.DeepCutAuto
import Derived.RegionTactic
import Derived.BigRegion
import Derived.Deep.RegionHeld3
set_option linter.unusedVariables false
set_option linter.unusedSimpArgs false
namespace Go.Proofs.Ytojmcejkfeaccaa
open Go.RowKit JdLaw
set_option maxRecDepth 100000
structure LwS (w : World) (b mo li wa : Int) (W : World) : Prop where
  plan : Blk W w.heap.size #[.int .i64 b, .int .i64 mo, .int .i64 li, .int .i64 wa] 23
  low : Below w.heap.size w W
section
variable {w W W1 : World} {b mo li wa : Int}
theorem LwS.start (w : World) (b mo li wa : Int) : LwS w b mo li wa (w.alloc (.cells #[.int .i64 b, .int .i64 mo, .int .i64 li, .int .i64 wa] 23)) := ⟨Blk.new _ _, (Below.refl _ _).alloc (Nat.le_refl _) _⟩
theorem LwS.next (h : LwS w b mo li wa W) (hb : Below W.heap.size W W1) : LwS w b mo li wa W1 := ⟨h.plan.below hb, Below.next h.low hb (Nat.le_refl _)⟩
theorem LwS.drew (h : LwS w b mo li wa W) : LwS w b mo li wa W.drew := ⟨h.plan, ⟨h.low.os, h.low.tape, h.low.output, h.low.size, h.low.block⟩⟩
theorem wait_b (b mo li wa t x : Int) (W : World) (h1 : 1 ≤ b) (h2 : b ≤ mo) (h3 : mo ≤ 1048576) (h4 : t ≤ 9223372036854775806) (hx : Hid (JdCal.wait b mo t = x)) :
    Calls Try.prog 6 #[.agg #[.int .i64 b, .int .i64 mo, .int .i64 li, .int .i64 wa], .int .i64 t] W fun e w' => e = .returned (.int .i64 x) ∧ Below W.heap.size W w' :=
  (wait_any b mo li wa t W h1 h2 h3 h4).mono fun e w' ⟨h1, h2⟩ => ⟨h1.trans (by rw [hx.out]), h2 ▸ (Below.refl _ _).alloc (Nat.le_refl _) _⟩
end
set_option maxHeartbeats 4000000 in
theorem waits_no (b mo li wa t : Int) (w : World) (hr : Hid (JdCal.right b mo li wa = false)) :
    Calls Try.prog 3 #[.agg #[.int .i64 b, .int .i64 mo, .int .i64 li, .int .i64 wa], .int .i64 t] w fun e w' => e = .returned (.bool true) ∧ Below w.heap.size w w' := by
  have LW := Aside.mk (LwS.start w b mo li wa)
  go_enter Try.func3, Try.ntmps3
  go_wp2_with (first | (go_at_call 4; refine (awake_any _).mono ?_; rintro e w1 ⟨rfl, hb1⟩; replace LW := Aside.mk (LW.out.next hb1); clear hb1) | (go_at_call 5; refine (right_any b mo li wa _).mono ?_; rw [hr.out]; rintro e w2 ⟨rfl, hb2⟩; replace LW := Aside.mk (LW.out.next hb2); clear hb2) | (with_reducible refine load_blk_g (w.heap.size) 23 (by kernel_rfl) _ rfl rfl #[.int .i64 b, .int .i64 mo, .int .i64 li, .int .i64 wa] 23 _ LW.out.plan Try.underlying23 rfl (by kernel_rfl) ?_; simp only [Act.put, List.setIfInBounds_toArray, List.set_cons_zero, List.set_cons_succ]))
  go_ret
  exact ⟨rfl, LW.out.low⟩
set_option maxHeartbeats 4000000 in
theorem waits_far (b mo li wa t : Int) (w : World) (hr : Hid (JdCal.right b mo li wa = true)) (ht : t < 1 ∨ 1073741824 < t) :
    Calls Try.prog 3 #[.agg #[.int .i64 b, .int .i64 mo, .int .i64 li, .int .i64 wa], .int .i64 t] w fun e w' => e = .returned (.bool true) ∧ Below w.heap.size w w' := by
  have LW := Aside.mk (LwS.start w b mo li wa)
  rcases ht with ht | ht
  all_goals
    go_enter Try.func3, Try.ntmps3
    go_wp2_with (first | (go_at_call 4; refine (awake_any _).mono ?_; rintro e w1 ⟨rfl, hb1⟩; replace LW := Aside.mk (LW.out.next hb1); clear hb1) | (go_at_call 5; refine (right_any b mo li wa _).mono ?_; rw [hr.out]; rintro e w2 ⟨rfl, hb2⟩; replace LW := Aside.mk (LW.out.next hb2); clear hb2) | (with_reducible refine load_blk_g (w.heap.size) 23 (by kernel_rfl) _ rfl rfl #[.int .i64 b, .int .i64 mo, .int .i64 li, .int .i64 wa] 23 _ LW.out.plan Try.underlying23 rfl (by kernel_rfl) ?_; simp only [Act.put, List.setIfInBounds_toArray, List.set_cons_zero, List.set_cons_succ]))
    go_ret
    exact ⟨rfl, LW.out.low⟩
set_option maxHeartbeats 4000000 in
theorem waits_most (b mo li wa t : Int) (w : World) (hr : Hid (JdCal.right b mo li wa = true)) (h1 : 1 ≤ b) (h2 : b ≤ mo) (h3 : mo ≤ 1048576) (ht0 : 1 ≤ t) (ht1 : t ≤ 1073741824) (x y : Int) (hx : Hid (JdCal.wait b mo t = x)) (hy : Hid (JdCal.wait b mo (t + 1) = y))
    (a1 : decide (b ≤ x) = true) (a2 : decide (x ≤ mo) = true) (a3 : decide (x ≤ y) = true) (a4 : (y == mo) = true) (x0 : 0 ≤ x) (x1 : x ≤ 1048576) :
    Calls Try.prog 3 #[.agg #[.int .i64 b, .int .i64 mo, .int .i64 li, .int .i64 wa], .int .i64 t] w fun e w' => e = .returned (.bool true) ∧ Below w.heap.size w w' := by
  have LW := Aside.mk (LwS.start w b mo li wa)
  have w1 : IntKind.i64.wrap (t + 1) = t + 1 := IntWalk.i64_in _ (by omega)
  have w2 : IntKind.i64.wrap (2 * x) = 2 * x := IntWalk.i64_in _ (by omega)
  have hb1_ := Lib.hid (JdCal.wait_one b mo h2)
  have hb40_ := Lib.hid (JdCal.wait_long b mo h1 h3)
  go_enter Try.func3, Try.ntmps3
  go_wp2_with (first | (go_at_call 4; refine (awake_any _).mono ?_; rintro e w1 ⟨rfl, hb1⟩; replace LW := Aside.mk (LW.out.next hb1); clear hb1) | (go_at_call 5; refine (right_any b mo li wa _).mono ?_; rw [hr.out]; rintro e w2 ⟨rfl, hb2⟩; replace LW := Aside.mk (LW.out.next hb2); clear hb2) | (with_reducible refine load_blk_g (w.heap.size) 23 (by kernel_rfl) _ rfl rfl #[.int .i64 b, .int .i64 mo, .int .i64 li, .int .i64 wa] 23 _ LW.out.plan Try.underlying23 rfl (by kernel_rfl) ?_; simp only [Act.put, List.setIfInBounds_toArray, List.set_cons_zero, List.set_cons_succ]))
  go_cut [5, 6] (fun v5 v6 w' => v5 = .int .i64 x ∧ v6 = .int .i64 y ∧ Aside (LwS w b mo li wa w'))
  case first =>
    rename_i J_ K_ hJ_ hK_
    refine wp_region_held_drew (S := LwS w b mo li wa) (by kernel_rfl) LW.out.drew (fun hS0_ => ?_)
    refine' wpAnyH_take (i := 0) (oi := ⟨some 20, _, _, _, _, _⟩) (v := _) rfl (by kernel_rfl) (by kernel_rfl) (by kernel_rfl) (fun _ _ _ h => h) (yields_blk (S := LwS w b mo li wa) (w.heap.size) 23 _ #[.int .i64 b, .int .i64 mo, .int .i64 li, .int .i64 wa] 23 _ (by rfl) (by rfl) (by rfl) (fun _ h_ => h_.plan) Try.underlying23 rfl (by kernel_rfl)) hS0_ ?_
    try simp only [Act.put, List.setIfInBounds_toArray, List.set_cons_zero, List.set_cons_succ]
    refine wpAnyH_take (i := 1) (oi := ⟨some 21, _, _, _, _, _⟩) (v := ?_) rfl (by kernel_rfl) (by kernel_rfl) (by kernel_rfl) (fun _ _ _ h => h) (Or.inl ⟨by rfl, ?_⟩) hS0_ ?_
    rotate_left
    · (intro w_ hSw_; first | (go_simp; done) | (go_simp; with_reducible rfl))
    try simp only [Act.put, List.setIfInBounds_toArray, List.set_cons_zero, List.set_cons_succ]
    as_aux_lemma =>
      refine' wpAnyH_take (i := 3) (oi := ⟨some 23, _, _, _, _, _⟩) (v := _) rfl (by kernel_rfl) (by kernel_rfl) (by kernel_rfl) (fun _ _ _ h => h) (yields_blk (S := LwS w b mo li wa) (w.heap.size) 23 _ #[.int .i64 b, .int .i64 mo, .int .i64 li, .int .i64 wa] 23 _ (by rfl) (by rfl) (by rfl) (fun _ h_ => h_.plan) Try.underlying23 rfl (by kernel_rfl)) hS0_ ?_
      try simp only [Act.put, List.setIfInBounds_toArray, List.set_cons_zero, List.set_cons_succ]
      refine wpAnyH_take (i := 4) (oi := ⟨some 24, _, _, _, _, _⟩) (v := ?_) rfl (by kernel_rfl) (by kernel_rfl) (by kernel_rfl) (fun _ _ _ h => h) (Or.inl ⟨by rfl, ?_⟩) hS0_ ?_
      rotate_left
      · (intro w_ hSw_; first | (go_simp; done) | (go_simp; with_reducible rfl))
      try simp only [Act.put, List.setIfInBounds_toArray, List.set_cons_zero, List.set_cons_succ]
      refine wpAnyH_take (i := 5) (oi := ⟨some 25, _, _, _, _, _⟩) (v := ?_) rfl (by kernel_rfl) (by kernel_rfl) (by kernel_rfl) (fun _ _ _ h => h) (Or.inl ⟨by rfl, ?_⟩) hS0_ ?_
      rotate_left
      · (intro w_ hSw_; first | (go_simp; done) | (go_simp; with_reducible rfl))
      try simp only [Act.put, List.setIfInBounds_toArray, List.set_cons_zero, List.set_cons_succ]
      refine wpAnyH_ready (rs := [2]) (by kernel_rfl) (by simp) ?_
      refine AllReadyH.cons rfl (fun K hK => ?_) ?_
      ·
        go_simp
        go_wp2_with ((go_at_call 6; refine (wait_b b mo li wa t x _ h1 h2 h3 (by omega) hx).mono ?_; rintro e w_ ⟨rfl, hb_⟩))
        refine hK.out _ _ ?_ (fun hS1_ => ?_)
        · exact (hS0_.next hb_)
        clear hK
        as_aux_lemma =>
          refine wpAnyH_ready (rs := [6]) (by kernel_rfl) (by simp) ?_
          refine AllReadyH.cons rfl (fun K hK => ?_) ?_
          ·
            go_simp
            go_wp2_with ((go_at_call 6; refine (wait_b b mo li wa (t + 1) y _ h1 h2 h3 (by omega) hy).mono ?_; rintro e w_ ⟨rfl, hb_⟩))
            refine hK.out _ _ ?_ (fun hS2_ => ?_)
            · exact (hS1_.next hb_)
            clear hK
            as_aux_lemma =>
              refine wpAnyH_take (i := 7) (oi := ⟨some 5, _, _, _, _, _⟩) (v := ?_) rfl (by kernel_rfl) (by kernel_rfl) (by kernel_rfl) (fun _ _ _ h => h) (Or.inl ⟨by rfl, ?_⟩) hS2_ ?_
              rotate_left
              · (intro w_ hSw_; first | (go_simp; done) | (go_simp; with_reducible rfl))
              try simp only [Act.put, List.setIfInBounds_toArray, List.set_cons_zero, List.set_cons_succ]
              refine wpAnyH_take (i := 8) (oi := ⟨some 6, _, _, _, _, _⟩) (v := ?_) rfl (by kernel_rfl) (by kernel_rfl) (by kernel_rfl) (fun _ _ _ h => h) (Or.inl ⟨by rfl, ?_⟩) hS2_ ?_
              rotate_left
              · (intro w_ hSw_; first | (go_simp; done) | (go_simp; with_reducible rfl))
              try simp only [Act.put, List.setIfInBounds_toArray, List.set_cons_zero, List.set_cons_succ]
              refine wpAnyH_done (by kernel_rfl) ?_ _
              refine hK_ _ _ (Met.intro (hJ_ _ _ ?_))
              (repeat apply Exists.intro)
              refine ⟨?_, rfl⟩
              exact ⟨rfl, rfl, ⟨hS2_⟩⟩
          exact AllReadyH.nil
      exact AllReadyH.nil
  case rest =>
  clear LW
  obtain ⟨rfl, rfl, LW⟩ := hcut
  go_wp2
  refine wp_region_held_drew (S := LwS w b mo li wa) (by kernel_rfl) LW.out.drew (fun hS0_ => ?_)
  refine wpAnyH_take (i := 0) (oi := ⟨some 27, _, _, _, _, _⟩) (v := ?_) rfl (by kernel_rfl) (by kernel_rfl) (by kernel_rfl) (fun _ _ _ h => h) (Or.inl ⟨by rfl, ?_⟩) hS0_ ?_
  rotate_left
  · (intro w_ hSw_; first | (go_simp; done) | (go_simp; with_reducible rfl))
  try simp only [Act.put, List.setIfInBounds_toArray, List.set_cons_zero, List.set_cons_succ]
  refine wpAnyH_take (i := 1) (oi := ⟨some 28, _, _, _, _, _⟩) (v := ?_) rfl (by kernel_rfl) (by kernel_rfl) (by kernel_rfl) (fun _ _ _ h => h) (Or.inl ⟨by rfl, ?_⟩) hS0_ ?_
  rotate_left
  · (intro w_ hSw_; first | (go_simp; done) | (go_simp; with_reducible rfl))
  try simp only [Act.put, List.setIfInBounds_toArray, List.set_cons_zero, List.set_cons_succ]
  refine wpAnyH_take (i := 2) (oi := ⟨some 29, _, _, _, _, _⟩) (v := ?_) rfl (by kernel_rfl) (by kernel_rfl) (by kernel_rfl) (fun _ _ _ h => h) (Or.inl ⟨by rfl, ?_⟩) hS0_ ?_
  rotate_left
  · (intro w_ hSw_; have hc_ := hSw_.plan.cell 0 _ rfl; first | (go_simp; done) | (go_simp; with_reducible rfl))
  try simp only [Act.put, List.setIfInBounds_toArray, List.set_cons_zero, List.set_cons_succ]
  as_aux_lemma =>
    refine wpAnyH_take (i := 3) (oi := ⟨some 30, _, _, _, _, _⟩) (v := ?_) rfl (by kernel_rfl) (by kernel_rfl) (by kernel_rfl) (fun _ _ _ h => h) (Or.inl ⟨by rfl, ?_⟩) hS0_ ?_
    rotate_left
    · (intro w_ hSw_; first | (go_simp; done) | (go_simp; with_reducible rfl))
    try simp only [Act.put, List.setIfInBounds_toArray, List.set_cons_zero, List.set_cons_succ]
    refine wpAnyH_take (i := 4) (oi := ⟨some 31, _, _, _, _, _⟩) (v := ?_) rfl (by kernel_rfl) (by kernel_rfl) (by kernel_rfl) (fun _ _ _ h => h) (Or.inl ⟨by rfl, ?_⟩) hS0_ ?_
    rotate_left
    · (intro w_ hSw_; first | (go_simp; done) | (go_simp; with_reducible rfl))
    try simp only [Act.put, List.setIfInBounds_toArray, List.set_cons_zero, List.set_cons_succ]
    refine wpAnyH_take (i := 5) (oi := ⟨some 32, _, _, _, _, _⟩) (v := ?_) rfl (by kernel_rfl) (by kernel_rfl) (by kernel_rfl) (fun _ _ _ h => h) (Or.inl ⟨by rfl, ?_⟩) hS0_ ?_
    rotate_left
    · (intro w_ hSw_; first | (go_simp; done) | (go_simp; with_reducible rfl))
    try simp only [Act.put, List.setIfInBounds_toArray, List.set_cons_zero, List.set_cons_succ]
    refine wpAnyH_take (i := 6) (oi := ⟨some 33, _, _, _, _, _⟩) (v := ?_) rfl (by kernel_rfl) (by kernel_rfl) (by kernel_rfl) (fun _ _ _ h => h) (Or.inl ⟨by rfl, ?_⟩) hS0_ ?_
    rotate_left
    · (intro w_ hSw_; first | (go_simp; done) | (go_simp; with_reducible rfl))
    try simp only [Act.put, List.setIfInBounds_toArray, List.set_cons_zero, List.set_cons_succ]
    refine wpAnyH_take (i := 7) (oi := ⟨some 34, _, _, _, _, _⟩) (v := ?_) rfl (by kernel_rfl) (by kernel_rfl) (by kernel_rfl) (fun _ _ _ h => h) (Or.inl ⟨by rfl, ?_⟩) hS0_ ?_
    rotate_left
    · (intro w_ hSw_; have hc_ := hSw_.plan.cell 1 _ rfl; first | (go_simp; done) | (go_simp; with_reducible rfl))
    try simp only [Act.put, List.setIfInBounds_toArray, List.set_cons_zero, List.set_cons_succ]
    refine wpAnyH_take (i := 8) (oi := ⟨some 35, _, _, _, _, _⟩) (v := ?_) rfl (by kernel_rfl) (by kernel_rfl) (by kernel_rfl) (fun _ _ _ h => h) (Or.inl ⟨by rfl, ?_⟩) hS0_ ?_
    rotate_left
    · (intro w_ hSw_; first | (go_simp; done) | (go_simp; with_reducible rfl))
    try simp only [Act.put, List.setIfInBounds_toArray, List.set_cons_zero, List.set_cons_succ]
    refine wpAnyH_take (i := 9) (oi := ⟨some 36, _, _, _, _, _⟩) (v := ?_) rfl (by kernel_rfl) (by kernel_rfl) (by kernel_rfl) (fun _ _ _ h => h) (Or.inl ⟨by rfl, ?_⟩) hS0_ ?_
    rotate_left
    · (intro w_ hSw_; first | (go_simp; done) | (go_simp; with_reducible rfl))
    try simp only [Act.put, List.setIfInBounds_toArray, List.set_cons_zero, List.set_cons_succ]
    refine wpAnyH_take (i := 10) (oi := ⟨some 37, _, _, _, _, _⟩) (v := ?_) rfl (by kernel_rfl) (by kernel_rfl) (by kernel_rfl) (fun _ _ _ h => h) (Or.inl ⟨by rfl, ?_⟩) hS0_ ?_
    rotate_left
    · (intro w_ hSw_; first | (go_simp; done) | (go_simp; with_reducible rfl))
    try simp only [Act.put, List.setIfInBounds_toArray, List.set_cons_zero, List.set_cons_succ]
    as_aux_lemma =>
      refine wpAnyH_take (i := 11) (oi := ⟨some 38, _, _, _, _, _⟩) (v := ?_) rfl (by kernel_rfl) (by kernel_rfl) (by kernel_rfl) (fun _ _ _ h => h) (Or.inl ⟨by rfl, ?_⟩) hS0_ ?_
      rotate_left
      · (intro w_ hSw_; first | (go_simp; done) | (go_simp; with_reducible rfl))
      try simp only [Act.put, List.setIfInBounds_toArray, List.set_cons_zero, List.set_cons_succ]
      refine wpAnyH_take (i := 12) (oi := ⟨some 39, _, _, _, _, _⟩) (v := ?_) rfl (by kernel_rfl) (by kernel_rfl) (by kernel_rfl) (fun _ _ _ h => h) (Or.inl ⟨by rfl, ?_⟩) hS0_ ?_
      rotate_left
      · (intro w_ hSw_; first | (go_simp; done) | (go_simp; with_reducible rfl))
      try simp only [Act.put, List.setIfInBounds_toArray, List.set_cons_zero, List.set_cons_succ]
      refine wpAnyH_take (i := 13) (oi := ⟨some 40, _, _, _, _, _⟩) (v := ?_) rfl (by kernel_rfl) (by kernel_rfl) (by kernel_rfl) (fun _ _ _ h => h) (Or.inl ⟨by rfl, ?_⟩) hS0_ ?_
      rotate_left
      · (intro w_ hSw_; first | (go_simp; done) | (go_simp; with_reducible rfl))
      try simp only [Act.put, List.setIfInBounds_toArray, List.set_cons_zero, List.set_cons_succ]
      refine wpAnyH_take (i := 14) (oi := ⟨some 41, _, _, _, _, _⟩) (v := ?_) rfl (by kernel_rfl) (by kernel_rfl) (by kernel_rfl) (fun _ _ _ h => h) (Or.inl ⟨by rfl, ?_⟩) hS0_ ?_
      rotate_left
      · (intro w_ hSw_; first | (go_simp; done) | (go_simp; with_reducible rfl))
      try simp only [Act.put, List.setIfInBounds_toArray, List.set_cons_zero, List.set_cons_succ]
      refine wpAnyH_take (i := 15) (oi := ⟨some 42, _, _, _, _, _⟩) (v := ?_) rfl (by kernel_rfl) (by kernel_rfl) (by kernel_rfl) (fun _ _ _ h => h) (Or.inl ⟨by rfl, ?_⟩) hS0_ ?_
      rotate_left
      · (intro w_ hSw_; first | (go_simp; done) | (go_simp; with_reducible rfl))
      try simp only [Act.put, List.setIfInBounds_toArray, List.set_cons_zero, List.set_cons_succ]
      refine wpAnyH_take (i := 16) (oi := ⟨some 43, _, _, _, _, _⟩) (v := ?_) rfl (by kernel_rfl) (by kernel_rfl) (by kernel_rfl) (fun _ _ _ h => h) (Or.inl ⟨by rfl, ?_⟩) hS0_ ?_
      rotate_left
      · (intro w_ hSw_; first | (go_simp; done) | (go_simp; with_reducible rfl))
      try simp only [Act.put, List.setIfInBounds_toArray, List.set_cons_zero, List.set_cons_succ]
      refine wpAnyH_take (i := 17) (oi := ⟨some 44, _, _, _, _, _⟩) (v := ?_) rfl (by kernel_rfl) (by kernel_rfl) (by kernel_rfl) (fun _ _ _ h => h) (Or.inl ⟨by rfl, ?_⟩) hS0_ ?_
      rotate_left
      · (intro w_ hSw_; first | (go_simp; done) | (go_simp; with_reducible rfl))
      try simp only [Act.put, List.setIfInBounds_toArray, List.set_cons_zero, List.set_cons_succ]
      refine wpAnyH_take (i := 18) (oi := ⟨some 45, _, _, _, _, _⟩) (v := ?_) rfl (by kernel_rfl) (by kernel_rfl) (by kernel_rfl) (fun _ _ _ h => h) (Or.inl ⟨by rfl, ?_⟩) hS0_ ?_
      rotate_left
      · (intro w_ hSw_; have hc_ := hSw_.plan.cell 1 _ rfl; first | (go_simp; done) | (go_simp; with_reducible rfl))
      try simp only [Act.put, List.setIfInBounds_toArray, List.set_cons_zero, List.set_cons_succ]
      as_aux_lemma =>
        refine wpAnyH_take (i := 19) (oi := ⟨some 46, _, _, _, _, _⟩) (v := ?_) rfl (by kernel_rfl) (by kernel_rfl) (by kernel_rfl) (fun _ _ _ h => h) (Or.inl ⟨by rfl, ?_⟩) hS0_ ?_
        rotate_left
        · (intro w_ hSw_; first | (go_simp; done) | (go_simp; with_reducible rfl))
        try simp only [Act.put, List.setIfInBounds_toArray, List.set_cons_zero, List.set_cons_succ]
        refine wpAnyH_take (i := 20) (oi := ⟨some 47, _, _, _, _, _⟩) (v := ?_) rfl (by kernel_rfl) (by kernel_rfl) (by kernel_rfl) (fun _ _ _ h => h) (Or.inl ⟨by rfl, ?_⟩) hS0_ ?_
        rotate_left
        · (intro w_ hSw_; first | (go_simp; done) | (go_simp; with_reducible rfl))
        try simp only [Act.put, List.setIfInBounds_toArray, List.set_cons_zero, List.set_cons_succ]
        refine' wpAnyH_take (i := 21) (oi := ⟨some 48, _, _, _, _, _⟩) (v := _) rfl (by kernel_rfl) (by kernel_rfl) (by kernel_rfl) (fun _ _ _ h => h) (.inr ⟨by rfl, rfl⟩) hS0_ ?_
        try simp only [Act.put, List.setIfInBounds_toArray, List.set_cons_zero, List.set_cons_succ]
        refine' wpAnyH_take (i := 22) (oi := ⟨some 49, _, _, _, _, _⟩) (v := _) rfl (by kernel_rfl) (by kernel_rfl) (by kernel_rfl) (fun _ _ _ h => h) (.inr ⟨by rfl, rfl⟩) hS0_ ?_
        try simp only [Act.put, List.setIfInBounds_toArray, List.set_cons_zero, List.set_cons_succ]
        refine' wpAnyH_take (i := 23) (oi := ⟨some 50, _, _, _, _, _⟩) (v := _) rfl (by kernel_rfl) (by kernel_rfl) (by kernel_rfl) (fun _ _ _ h => h) (.inr ⟨by rfl, rfl⟩) hS0_ ?_
        try simp only [Act.put, List.setIfInBounds_toArray, List.set_cons_zero, List.set_cons_succ]
        refine' wpAnyH_take (i := 24) (oi := ⟨some 51, _, _, _, _, _⟩) (v := _) rfl (by kernel_rfl) (by kernel_rfl) (by kernel_rfl) (fun _ _ _ h => h) (.inr ⟨by rfl, rfl⟩) hS0_ ?_
        try simp only [Act.put, List.setIfInBounds_toArray, List.set_cons_zero, List.set_cons_succ]
        refine wpAnyH_take (i := 25) (oi := ⟨some 52, _, _, _, _, _⟩) (v := ?_) rfl (by kernel_rfl) (by kernel_rfl) (by kernel_rfl) (fun _ _ _ h => h) (Or.inl ⟨by rfl, ?_⟩) hS0_ ?_
        rotate_left
        · (intro w_ hSw_; first | (go_simp; done) | (go_simp; with_reducible rfl))
        try simp only [Act.put, List.setIfInBounds_toArray, List.set_cons_zero, List.set_cons_succ]
        refine wpAnyH_take (i := 26) (oi := ⟨some 53, _, _, _, _, _⟩) (v := ?_) rfl (by kernel_rfl) (by kernel_rfl) (by kernel_rfl) (fun _ _ _ h => h) (Or.inl ⟨by rfl, ?_⟩) hS0_ ?_
        rotate_left
        · (intro w_ hSw_; first | (go_simp; done) | (go_simp; with_reducible rfl))
        try simp only [Act.put, List.setIfInBounds_toArray, List.set_cons_zero, List.set_cons_succ]
        as_aux_lemma =>
          refine wpAnyH_take (i := 27) (oi := ⟨some 54, _, _, _, _, _⟩) (v := ?_) rfl (by kernel_rfl) (by kernel_rfl) (by kernel_rfl) (fun _ _ _ h => h) (Or.inl ⟨by rfl, ?_⟩) hS0_ ?_
          rotate_left
          · (intro w_ hSw_; first | (go_simp; done) | (go_simp; with_reducible rfl))
          try simp only [Act.put, List.setIfInBounds_toArray, List.set_cons_zero, List.set_cons_succ]
          refine' wpAnyH_take (i := 28) (oi := ⟨some 55, _, _, _, _, _⟩) (v := _) rfl (by kernel_rfl) (by kernel_rfl) (by kernel_rfl) (fun _ _ _ h => h) (yields_blk (S := LwS w b mo li wa) (w.heap.size) 23 _ #[.int .i64 b, .int .i64 mo, .int .i64 li, .int .i64 wa] 23 _ (by rfl) (by rfl) (by rfl) (fun _ h_ => h_.plan) Try.underlying23 rfl (by kernel_rfl)) hS0_ ?_
          try simp only [Act.put, List.setIfInBounds_toArray, List.set_cons_zero, List.set_cons_succ]
          refine wpAnyH_take (i := 30) (oi := ⟨some 57, _, _, _, _, _⟩) (v := ?_) rfl (by kernel_rfl) (by kernel_rfl) (by kernel_rfl) (fun _ _ _ h => h) (Or.inl ⟨by rfl, ?_⟩) hS0_ ?_
          rotate_left
          · (intro w_ hSw_; first | (go_simp; done) | (go_simp; with_reducible rfl))
          try simp only [Act.put, List.setIfInBounds_toArray, List.set_cons_zero, List.set_cons_succ]
          refine wpAnyH_take (i := 31) (oi := ⟨some 58, _, _, _, _, _⟩) (v := ?_) rfl (by kernel_rfl) (by kernel_rfl) (by kernel_rfl) (fun _ _ _ h => h) (Or.inl ⟨by rfl, ?_⟩) hS0_ ?_
          rotate_left
          · (intro w_ hSw_; have hc_ := hSw_.plan.cell 0 _ rfl; first | (go_simp; done) | (go_simp; with_reducible rfl))
          try simp only [Act.put, List.setIfInBounds_toArray, List.set_cons_zero, List.set_cons_succ]
          refine wpAnyH_ready (rs := [29]) (by kernel_rfl) (by simp) ?_
          refine AllReadyH.cons rfl (fun K hK => ?_) ?_
          ·
            go_simp
            go_wp2_with ((go_at_call 6; refine (wait_b b mo li wa 1 b _ h1 h2 h3 (by omega) hb1_).mono ?_; rintro e w_ ⟨rfl, hb_⟩))
            refine hK.out _ _ ?_ (fun hS1_ => ?_)
            · exact (hS0_.next hb_)
            clear hK
            as_aux_lemma =>
              refine wpAnyH_take (i := 32) (oi := ⟨some 59, _, _, _, _, _⟩) (v := ?_) rfl (by kernel_rfl) (by kernel_rfl) (by kernel_rfl) (fun _ _ _ h => h) (Or.inl ⟨by rfl, ?_⟩) hS1_ ?_
              rotate_left
              · (intro w_ hSw_; first | (go_simp; done) | (go_simp; with_reducible rfl))
              try simp only [Act.put, List.setIfInBounds_toArray, List.set_cons_zero, List.set_cons_succ]
              refine wpAnyH_take (i := 33) (oi := ⟨some 60, _, _, _, _, _⟩) (v := ?_) rfl (by kernel_rfl) (by kernel_rfl) (by kernel_rfl) (fun _ _ _ h => h) (Or.inl ⟨by rfl, ?_⟩) hS1_ ?_
              rotate_left
              · (intro w_ hSw_; first | (go_simp; done) | (go_simp; with_reducible rfl))
              try simp only [Act.put, List.setIfInBounds_toArray, List.set_cons_zero, List.set_cons_succ]
              refine wpAnyH_take (i := 34) (oi := ⟨some 61, _, _, _, _, _⟩) (v := ?_) rfl (by kernel_rfl) (by kernel_rfl) (by kernel_rfl) (fun _ _ _ h => h) (Or.inl ⟨by rfl, ?_⟩) hS1_ ?_
              rotate_left
              · (intro w_ hSw_; first | (go_simp; done) | (go_simp; with_reducible rfl))
              try simp only [Act.put, List.setIfInBounds_toArray, List.set_cons_zero, List.set_cons_succ]
              refine' wpAnyH_take (i := 35) (oi := ⟨some 62, _, _, _, _, _⟩) (v := _) rfl (by kernel_rfl) (by kernel_rfl) (by kernel_rfl) (fun _ _ _ h => h) (yields_blk (S := LwS w b mo li wa) (w.heap.size) 23 _ #[.int .i64 b, .int .i64 mo, .int .i64 li, .int .i64 wa] 23 _ (by rfl) (by rfl) (by rfl) (fun _ h_ => h_.plan) Try.underlying23 rfl (by kernel_rfl)) hS1_ ?_
              try simp only [Act.put, List.setIfInBounds_toArray, List.set_cons_zero, List.set_cons_succ]
              as_aux_lemma =>
                refine wpAnyH_take (i := 37) (oi := ⟨some 64, _, _, _, _, _⟩) (v := ?_) rfl (by kernel_rfl) (by kernel_rfl) (by kernel_rfl) (fun _ _ _ h => h) (Or.inl ⟨by rfl, ?_⟩) hS1_ ?_
                rotate_left
                · (intro w_ hSw_; first | (go_simp; done) | (go_simp; with_reducible rfl))
                try simp only [Act.put, List.setIfInBounds_toArray, List.set_cons_zero, List.set_cons_succ]
                refine wpAnyH_take (i := 38) (oi := ⟨some 65, _, _, _, _, _⟩) (v := ?_) rfl (by kernel_rfl) (by kernel_rfl) (by kernel_rfl) (fun _ _ _ h => h) (Or.inl ⟨by rfl, ?_⟩) hS1_ ?_
                rotate_left
                · (intro w_ hSw_; have hc_ := hSw_.plan.cell 1 _ rfl; first | (go_simp; done) | (go_simp; with_reducible rfl))
                try simp only [Act.put, List.setIfInBounds_toArray, List.set_cons_zero, List.set_cons_succ]
                refine wpAnyH_ready (rs := [36]) (by kernel_rfl) (by simp) ?_
                refine AllReadyH.cons rfl (fun K hK => ?_) ?_
                ·
                  go_simp
                  go_wp2_with ((go_at_call 6; refine (wait_b b mo li wa 40 mo _ h1 h2 h3 (by omega) hb40_).mono ?_; rintro e w_ ⟨rfl, hb_⟩))
                  refine hK.out _ _ ?_ (fun hS2_ => ?_)
                  · exact (hS1_.next hb_)
                  clear hK
                  as_aux_lemma =>
                    refine wpAnyH_take (i := 39) (oi := ⟨some 66, _, _, _, _, _⟩) (v := ?_) rfl (by kernel_rfl) (by kernel_rfl) (by kernel_rfl) (fun _ _ _ h => h) (Or.inl ⟨by rfl, ?_⟩) hS2_ ?_
                    rotate_left
                    · (intro w_ hSw_; first | (go_simp; done) | (go_simp; with_reducible rfl))
                    try simp only [Act.put, List.setIfInBounds_toArray, List.set_cons_zero, List.set_cons_succ]
                    refine wpAnyH_take (i := 40) (oi := ⟨some 67, _, _, _, _, _⟩) (v := ?_) rfl (by kernel_rfl) (by kernel_rfl) (by kernel_rfl) (fun _ _ _ h => h) (Or.inl ⟨by rfl, ?_⟩) hS2_ ?_
                    rotate_left
                    · (intro w_ hSw_; first | (go_simp; done) | (go_simp; with_reducible rfl))
                    try simp only [Act.put, List.setIfInBounds_toArray, List.set_cons_zero, List.set_cons_succ]
                    refine wpAnyH_take (i := 41) (oi := ⟨some 4, _, _, _, _, _⟩) (v := ?_) rfl (by kernel_rfl) (by kernel_rfl) (by kernel_rfl) (fun _ _ _ h => h) (Or.inl ⟨by rfl, ?_⟩) hS2_ ?_
                    rotate_left
                    · (intro w_ hSw_; first | (go_simp; done) | (go_simp; with_reducible rfl))
                    try simp only [Act.put, List.setIfInBounds_toArray, List.set_cons_zero, List.set_cons_succ]
                    refine wpAnyH_done (by kernel_rfl) ?_ _
                    go_wp2
                    go_ret
                    exact ⟨rfl, hS2_.low⟩
                exact AllReadyH.nil
          exact AllReadyH.nil
set_option maxHeartbeats 4000000 in
theorem waits_twice (b mo li wa t : Int) (w : World) (hr : Hid (JdCal.right b mo li wa = true)) (h1 : 1 ≤ b) (h2 : b ≤ mo) (h3 : mo ≤ 1048576) (ht0 : 1 ≤ t) (ht1 : t ≤ 1073741824) (x y : Int) (hx : Hid (JdCal.wait b mo t = x)) (hy : Hid (JdCal.wait b mo (t + 1) = y))
    (a1 : decide (b ≤ x) = true) (a2 : decide (x ≤ mo) = true) (a3 : decide (x ≤ y) = true) (a4 : (y == mo) = false) (a5 : (y == 2 * x) = true) (x0 : 0 ≤ x) (x1 : x ≤ 1048576) :
    Calls Try.prog 3 #[.agg #[.int .i64 b, .int .i64 mo, .int .i64 li, .int .i64 wa], .int .i64 t] w fun e w' => e = .returned (.bool true) ∧ Below w.heap.size w w' := by
  have LW := Aside.mk (LwS.start w b mo li wa)
  have w1 : IntKind.i64.wrap (t + 1) = t + 1 := IntWalk.i64_in _ (by omega)
  have w2 : IntKind.i64.wrap (2 * x) = 2 * x := IntWalk.i64_in _ (by omega)
  have hb1_ := Lib.hid (JdCal.wait_one b mo h2)
  have hb40_ := Lib.hid (JdCal.wait_long b mo h1 h3)
  go_enter Try.func3, Try.ntmps3
  go_wp2_with (first | (go_at_call 4; refine (awake_any _).mono ?_; rintro e w1 ⟨rfl, hb1⟩; replace LW := Aside.mk (LW.out.next hb1); clear hb1) | (go_at_call 5; refine (right_any b mo li wa _).mono ?_; rw [hr.out]; rintro e w2 ⟨rfl, hb2⟩; replace LW := Aside.mk (LW.out.next hb2); clear hb2) | (with_reducible refine load_blk_g (w.heap.size) 23 (by kernel_rfl) _ rfl rfl #[.int .i64 b, .int .i64 mo, .int .i64 li, .int .i64 wa] 23 _ LW.out.plan Try.underlying23 rfl (by kernel_rfl) ?_; simp only [Act.put, List.setIfInBounds_toArray, List.set_cons_zero, List.set_cons_succ]))
  go_cut [5, 6] (fun v5 v6 w' => v5 = .int .i64 x ∧ v6 = .int .i64 y ∧ Aside (LwS w b mo li wa w'))
  case first =>
    rename_i J_ K_ hJ_ hK_
    refine wp_region_held_drew (S := LwS w b mo li wa) (by kernel_rfl) LW.out.drew (fun hS0_ => ?_)
    refine' wpAnyH_take (i := 0) (oi := ⟨some 20, _, _, _, _, _⟩) (v := _) rfl (by kernel_rfl) (by kernel_rfl) (by kernel_rfl) (fun _ _ _ h => h) (yields_blk (S := LwS w b mo li wa) (w.heap.size) 23 _ #[.int .i64 b, .int .i64 mo, .int .i64 li, .int .i64 wa] 23 _ (by rfl) (by rfl) (by rfl) (fun _ h_ => h_.plan) Try.underlying23 rfl (by kernel_rfl)) hS0_ ?_
    try simp only [Act.put, List.setIfInBounds_toArray, List.set_cons_zero, List.set_cons_succ]
    refine wpAnyH_take (i := 1) (oi := ⟨some 21, _, _, _, _, _⟩) (v := ?_) rfl (by kernel_rfl) (by kernel_rfl) (by kernel_rfl) (fun _ _ _ h => h) (Or.inl ⟨by rfl, ?_⟩) hS0_ ?_
    rotate_left
    · (intro w_ hSw_; first | (go_simp; done) | (go_simp; with_reducible rfl))
    try simp only [Act.put, List.setIfInBounds_toArray, List.set_cons_zero, List.set_cons_succ]
    refine' wpAnyH_take (i := 3) (oi := ⟨some 23, _, _, _, _, _⟩) (v := _) rfl (by kernel_rfl) (by kernel_rfl) (by kernel_rfl) (fun _ _ _ h => h) (yields_blk (S := LwS w b mo li wa) (w.heap.size) 23 _ #[.int .i64 b, .int .i64 mo, .int .i64 li, .int .i64 wa] 23 _ (by rfl) (by rfl) (by rfl) (fun _ h_ => h_.plan) Try.underlying23 rfl (by kernel_rfl)) hS0_ ?_
    try simp only [Act.put, List.setIfInBounds_toArray, List.set_cons_zero, List.set_cons_succ]
    as_aux_lemma =>
      refine wpAnyH_take (i := 4) (oi := ⟨some 24, _, _, _, _, _⟩) (v := ?_) rfl (by kernel_rfl) (by kernel_rfl) (by kernel_rfl) (fun _ _ _ h => h) (Or.inl ⟨by rfl, ?_⟩) hS0_ ?_
      rotate_left
      · (intro w_ hSw_; first | (go_simp; done) | (go_simp; with_reducible rfl))
      try simp only [Act.put, List.setIfInBounds_toArray, List.set_cons_zero, List.set_cons_succ]
      refine wpAnyH_take (i := 5) (oi := ⟨some 25, _, _, _, _, _⟩) (v := ?_) rfl (by kernel_rfl) (by kernel_rfl) (by kernel_rfl) (fun _ _ _ h => h) (Or.inl ⟨by rfl, ?_⟩) hS0_ ?_
      rotate_left
      · (intro w_ hSw_; first | (go_simp; done) | (go_simp; with_reducible rfl))
      try simp only [Act.put, List.setIfInBounds_toArray, List.set_cons_zero, List.set_cons_succ]
      refine wpAnyH_ready (rs := [2]) (by kernel_rfl) (by simp) ?_
      refine AllReadyH.cons rfl (fun K hK => ?_) ?_
      ·
        go_simp
        go_wp2_with ((go_at_call 6; refine (wait_b b mo li wa t x _ h1 h2 h3 (by omega) hx).mono ?_; rintro e w_ ⟨rfl, hb_⟩))
        refine hK.out _ _ ?_ (fun hS1_ => ?_)
        · exact (hS0_.next hb_)
        clear hK
        as_aux_lemma =>
          refine wpAnyH_ready (rs := [6]) (by kernel_rfl) (by simp) ?_
          refine AllReadyH.cons rfl (fun K hK => ?_) ?_
          ·
            go_simp
            go_wp2_with ((go_at_call 6; refine (wait_b b mo li wa (t + 1) y _ h1 h2 h3 (by omega) hy).mono ?_; rintro e w_ ⟨rfl, hb_⟩))
            refine hK.out _ _ ?_ (fun hS2_ => ?_)
            · exact (hS1_.next hb_)
            clear hK
            as_aux_lemma =>
              refine wpAnyH_take (i := 7) (oi := ⟨some 5, _, _, _, _, _⟩) (v := ?_) rfl (by kernel_rfl) (by kernel_rfl) (by kernel_rfl) (fun _ _ _ h => h) (Or.inl ⟨by rfl, ?_⟩) hS2_ ?_
              rotate_left
              · (intro w_ hSw_; first | (go_simp; done) | (go_simp; with_reducible rfl))
              try simp only [Act.put, List.setIfInBounds_toArray, List.set_cons_zero, List.set_cons_succ]
              refine wpAnyH_take (i := 8) (oi := ⟨some 6, _, _, _, _, _⟩) (v := ?_) rfl (by kernel_rfl) (by kernel_rfl) (by kernel_rfl) (fun _ _ _ h => h) (Or.inl ⟨by rfl, ?_⟩) hS2_ ?_
              rotate_left
              · (intro w_ hSw_; first | (go_simp; done) | (go_simp; with_reducible rfl))
              try simp only [Act.put, List.setIfInBounds_toArray, List.set_cons_zero, List.set_cons_succ]
              refine wpAnyH_done (by kernel_rfl) ?_ _
              refine hK_ _ _ (Met.intro (hJ_ _ _ ?_))
              (repeat apply Exists.intro)
              refine ⟨?_, rfl⟩
              exact ⟨rfl, rfl, ⟨hS2_⟩⟩
          exact AllReadyH.nil
      exact AllReadyH.nil
  case rest =>
  clear LW
  obtain ⟨rfl, rfl, LW⟩ := hcut
  go_wp2
  refine wp_region_held_drew (S := LwS w b mo li wa) (by kernel_rfl) LW.out.drew (fun hS0_ => ?_)
  refine wpAnyH_take (i := 0) (oi := ⟨some 27, _, _, _, _, _⟩) (v := ?_) rfl (by kernel_rfl) (by kernel_rfl) (by kernel_rfl) (fun _ _ _ h => h) (Or.inl ⟨by rfl, ?_⟩) hS0_ ?_
  rotate_left
  · (intro w_ hSw_; first | (go_simp; done) | (go_simp; with_reducible rfl))
  try simp only [Act.put, List.setIfInBounds_toArray, List.set_cons_zero, List.set_cons_succ]
  refine wpAnyH_take (i := 1) (oi := ⟨some 28, _, _, _, _, _⟩) (v := ?_) rfl (by kernel_rfl) (by kernel_rfl) (by kernel_rfl) (fun _ _ _ h => h) (Or.inl ⟨by rfl, ?_⟩) hS0_ ?_
  rotate_left
  · (intro w_ hSw_; first | (go_simp; done) | (go_simp; with_reducible rfl))
  try simp only [Act.put, List.setIfInBounds_toArray, List.set_cons_zero, List.set_cons_succ]
  refine wpAnyH_take (i := 2) (oi := ⟨some 29, _, _, _, _, _⟩) (v := ?_) rfl (by kernel_rfl) (by kernel_rfl) (by kernel_rfl) (fun _ _ _ h => h) (Or.inl ⟨by rfl, ?_⟩) hS0_ ?_
  rotate_left
  · (intro w_ hSw_; have hc_ := hSw_.plan.cell 0 _ rfl; first | (go_simp; done) | (go_simp; with_reducible rfl))
  try simp only [Act.put, List.setIfInBounds_toArray, List.set_cons_zero, List.set_cons_succ]
  refine wpAnyH_take (i := 3) (oi := ⟨some 30, _, _, _, _, _⟩) (v := ?_) rfl (by kernel_rfl) (by kernel_rfl) (by kernel_rfl) (fun _ _ _ h => h) (Or.inl ⟨by rfl, ?_⟩) hS0_ ?_
  rotate_left
  · (intro w_ hSw_; first | (go_simp; done) | (go_simp; with_reducible rfl))
  try simp only [Act.put, List.setIfInBounds_toArray, List.set_cons_zero, List.set_cons_succ]
  as_aux_lemma =>
    refine wpAnyH_take (i := 4) (oi := ⟨some 31, _, _, _, _, _⟩) (v := ?_) rfl (by kernel_rfl) (by kernel_rfl) (by kernel_rfl) (fun _ _ _ h => h) (Or.inl ⟨by rfl, ?_⟩) hS0_ ?_
    rotate_left
    · (intro w_ hSw_; first | (go_simp; done) | (go_simp; with_reducible rfl))
    try simp only [Act.put, List.setIfInBounds_toArray, List.set_cons_zero, List.set_cons_succ]
    refine wpAnyH_take (i := 5) (oi := ⟨some 32, _, _, _, _, _⟩) (v := ?_) rfl (by kernel_rfl) (by kernel_rfl) (by kernel_rfl) (fun _ _ _ h => h) (Or.inl ⟨by rfl, ?_⟩) hS0_ ?_
    rotate_left
    · (intro w_ hSw_; first | (go_simp; done) | (go_simp; with_reducible rfl))
    try simp only [Act.put, List.setIfInBounds_toArray, List.set_cons_zero, List.set_cons_succ]
    refine wpAnyH_take (i := 6) (oi := ⟨some 33, _, _, _, _, _⟩) (v := ?_) rfl (by kernel_rfl) (by kernel_rfl) (by kernel_rfl) (fun _ _ _ h => h) (Or.inl ⟨by rfl, ?_⟩) hS0_ ?_
    rotate_left
    · (intro w_ hSw_; first | (go_simp; done) | (go_simp; with_reducible rfl))
    try simp only [Act.put, List.setIfInBounds_toArray, List.set_cons_zero, List.set_cons_succ]
    refine wpAnyH_take (i := 7) (oi := ⟨some 34, _, _, _, _, _⟩) (v := ?_) rfl (by kernel_rfl) (by kernel_rfl) (by kernel_rfl) (fun _ _ _ h => h) (Or.inl ⟨by rfl, ?_⟩) hS0_ ?_
    rotate_left
    · (intro w_ hSw_; have hc_ := hSw_.plan.cell 1 _ rfl; first | (go_simp; done) | (go_simp; with_reducible rfl))
    try simp only [Act.put, List.setIfInBounds_toArray, List.set_cons_zero, List.set_cons_succ]
    refine wpAnyH_take (i := 8) (oi := ⟨some 35, _, _, _, _, _⟩) (v := ?_) rfl (by kernel_rfl) (by kernel_rfl) (by kernel_rfl) (fun _ _ _ h => h) (Or.inl ⟨by rfl, ?_⟩) hS0_ ?_
    rotate_left
    · (intro w_ hSw_; first | (go_simp; done) | (go_simp; with_reducible rfl))
    try simp only [Act.put, List.setIfInBounds_toArray, List.set_cons_zero, List.set_cons_succ]
    refine wpAnyH_take (i := 9) (oi := ⟨some 36, _, _, _, _, _⟩) (v := ?_) rfl (by kernel_rfl) (by kernel_rfl) (by kernel_rfl) (fun _ _ _ h => h) (Or.inl ⟨by rfl, ?_⟩) hS0_ ?_
    rotate_left
    · (intro w_ hSw_; first | (go_simp; done) | (go_simp; with_reducible rfl))
    try simp only [Act.put, List.setIfInBounds_toArray, List.set_cons_zero, List.set_cons_succ]
    refine wpAnyH_take (i := 10) (oi := ⟨some 37, _, _, _, _, _⟩) (v := ?_) rfl (by kernel_rfl) (by kernel_rfl) (by kernel_rfl) (fun _ _ _ h => h) (Or.inl ⟨by rfl, ?_⟩) hS0_ ?_
    rotate_left
    · (intro w_ hSw_; first | (go_simp; done) | (go_simp; with_reducible rfl))
    try simp only [Act.put, List.setIfInBounds_toArray, List.set_cons_zero, List.set_cons_succ]
    refine wpAnyH_take (i := 11) (oi := ⟨some 38, _, _, _, _, _⟩) (v := ?_) rfl (by kernel_rfl) (by kernel_rfl) (by kernel_rfl) (fun _ _ _ h => h) (Or.inl ⟨by rfl, ?_⟩) hS0_ ?_
    rotate_left
    · (intro w_ hSw_; first | (go_simp; done) | (go_simp; with_reducible rfl))
    try simp only [Act.put, List.setIfInBounds_toArray, List.set_cons_zero, List.set_cons_succ]
    as_aux_lemma =>
      refine wpAnyH_take (i := 12) (oi := ⟨some 39, _, _, _, _, _⟩) (v := ?_) rfl (by kernel_rfl) (by kernel_rfl) (by kernel_rfl) (fun _ _ _ h => h) (Or.inl ⟨by rfl, ?_⟩) hS0_ ?_
      rotate_left
      · (intro w_ hSw_; first | (go_simp; done) | (go_simp; with_reducible rfl))
      try simp only [Act.put, List.setIfInBounds_toArray, List.set_cons_zero, List.set_cons_succ]
      refine wpAnyH_take (i := 13) (oi := ⟨some 40, _, _, _, _, _⟩) (v := ?_) rfl (by kernel_rfl) (by kernel_rfl) (by kernel_rfl) (fun _ _ _ h => h) (Or.inl ⟨by rfl, ?_⟩) hS0_ ?_
      rotate_left
      · (intro w_ hSw_; first | (go_simp; done) | (go_simp; with_reducible rfl))
      try simp only [Act.put, List.setIfInBounds_toArray, List.set_cons_zero, List.set_cons_succ]
      refine wpAnyH_take (i := 14) (oi := ⟨some 41, _, _, _, _, _⟩) (v := ?_) rfl (by kernel_rfl) (by kernel_rfl) (by kernel_rfl) (fun _ _ _ h => h) (Or.inl ⟨by rfl, ?_⟩) hS0_ ?_
      rotate_left
      · (intro w_ hSw_; first | (go_simp; done) | (go_simp; with_reducible rfl))
      try simp only [Act.put, List.setIfInBounds_toArray, List.set_cons_zero, List.set_cons_succ]
      refine wpAnyH_take (i := 15) (oi := ⟨some 42, _, _, _, _, _⟩) (v := ?_) rfl (by kernel_rfl) (by kernel_rfl) (by kernel_rfl) (fun _ _ _ h => h) (Or.inl ⟨by rfl, ?_⟩) hS0_ ?_
      rotate_left
      · (intro w_ hSw_; first | (go_simp; done) | (go_simp; with_reducible rfl))
      try simp only [Act.put, List.setIfInBounds_toArray, List.set_cons_zero, List.set_cons_succ]
      refine wpAnyH_take (i := 16) (oi := ⟨some 43, _, _, _, _, _⟩) (v := ?_) rfl (by kernel_rfl) (by kernel_rfl) (by kernel_rfl) (fun _ _ _ h => h) (Or.inl ⟨by rfl, ?_⟩) hS0_ ?_
      rotate_left
      · (intro w_ hSw_; first | (go_simp; done) | (go_simp; with_reducible rfl))
      try simp only [Act.put, List.setIfInBounds_toArray, List.set_cons_zero, List.set_cons_succ]
      refine wpAnyH_take (i := 17) (oi := ⟨some 44, _, _, _, _, _⟩) (v := ?_) rfl (by kernel_rfl) (by kernel_rfl) (by kernel_rfl) (fun _ _ _ h => h) (Or.inl ⟨by rfl, ?_⟩) hS0_ ?_
      rotate_left
      · (intro w_ hSw_; first | (go_simp; done) | (go_simp; with_reducible rfl))
      try simp only [Act.put, List.setIfInBounds_toArray, List.set_cons_zero, List.set_cons_succ]
      refine wpAnyH_take (i := 18) (oi := ⟨some 45, _, _, _, _, _⟩) (v := ?_) rfl (by kernel_rfl) (by kernel_rfl) (by kernel_rfl) (fun _ _ _ h => h) (Or.inl ⟨by rfl, ?_⟩) hS0_ ?_
      rotate_left
      · (intro w_ hSw_; have hc_ := hSw_.plan.cell 1 _ rfl; first | (go_simp; done) | (go_simp; with_reducible rfl))
      try simp only [Act.put, List.setIfInBounds_toArray, List.set_cons_zero, List.set_cons_succ]
      refine wpAnyH_take (i := 19) (oi := ⟨some 46, _, _, _, _, _⟩) (v := ?_) rfl (by kernel_rfl) (by kernel_rfl) (by kernel_rfl) (fun _ _ _ h => h) (Or.inl ⟨by rfl, ?_⟩) hS0_ ?_
      rotate_left
      · (intro w_ hSw_; first | (go_simp; done) | (go_simp; with_reducible rfl))
      try simp only [Act.put, List.setIfInBounds_toArray, List.set_cons_zero, List.set_cons_succ]
      as_aux_lemma =>
        refine wpAnyH_take (i := 20) (oi := ⟨some 47, _, _, _, _, _⟩) (v := ?_) rfl (by kernel_rfl) (by kernel_rfl) (by kernel_rfl) (fun _ _ _ h => h) (Or.inl ⟨by rfl, ?_⟩) hS0_ ?_
        rotate_left
        · (intro w_ hSw_; first | (go_simp; done) | (go_simp; with_reducible rfl))
        try simp only [Act.put, List.setIfInBounds_toArray, List.set_cons_zero, List.set_cons_succ]
        refine wpAnyH_take (i := 21) (oi := ⟨some 48, _, _, _, _, _⟩) (v := ?_) rfl (by kernel_rfl) (by kernel_rfl) (by kernel_rfl) (fun _ _ _ h => h) (Or.inl ⟨by rfl, ?_⟩) hS0_ ?_
        rotate_left
        · (intro w_ hSw_; first | (go_simp; done) | (go_simp; with_reducible rfl))
        try simp only [Act.put, List.setIfInBounds_toArray, List.set_cons_zero, List.set_cons_succ]
        refine wpAnyH_take (i := 22) (oi := ⟨some 49, _, _, _, _, _⟩) (v := ?_) rfl (by kernel_rfl) (by kernel_rfl) (by kernel_rfl) (fun _ _ _ h => h) (Or.inl ⟨by rfl, ?_⟩) hS0_ ?_
        rotate_left
        · (intro w_ hSw_; first | (go_simp; done) | (go_simp; with_reducible rfl))
        try simp only [Act.put, List.setIfInBounds_toArray, List.set_cons_zero, List.set_cons_succ]
        refine wpAnyH_take (i := 23) (oi := ⟨some 50, _, _, _, _, _⟩) (v := ?_) rfl (by kernel_rfl) (by kernel_rfl) (by kernel_rfl) (fun _ _ _ h => h) (Or.inl ⟨by rfl, ?_⟩) hS0_ ?_
        rotate_left
        · (intro w_ hSw_; first | (go_simp; done) | (go_simp; with_reducible rfl))
        try simp only [Act.put, List.setIfInBounds_toArray, List.set_cons_zero, List.set_cons_succ]
        refine wpAnyH_take (i := 24) (oi := ⟨some 51, _, _, _, _, _⟩) (v := ?_) rfl (by kernel_rfl) (by kernel_rfl) (by kernel_rfl) (fun _ _ _ h => h) (Or.inl ⟨by rfl, ?_⟩) hS0_ ?_
        rotate_left
        · (intro w_ hSw_; first | (go_simp; done) | (go_simp; with_reducible rfl))
        try simp only [Act.put, List.setIfInBounds_toArray, List.set_cons_zero, List.set_cons_succ]
        refine wpAnyH_take (i := 25) (oi := ⟨some 52, _, _, _, _, _⟩) (v := ?_) rfl (by kernel_rfl) (by kernel_rfl) (by kernel_rfl) (fun _ _ _ h => h) (Or.inl ⟨by rfl, ?_⟩) hS0_ ?_
        rotate_left
        · (intro w_ hSw_; first | (go_simp; done) | (go_simp; with_reducible rfl))
        try simp only [Act.put, List.setIfInBounds_toArray, List.set_cons_zero, List.set_cons_succ]
        refine wpAnyH_take (i := 26) (oi := ⟨some 53, _, _, _, _, _⟩) (v := ?_) rfl (by kernel_rfl) (by kernel_rfl) (by kernel_rfl) (fun _ _ _ h => h) (Or.inl ⟨by rfl, ?_⟩) hS0_ ?_
        rotate_left
        · (intro w_ hSw_; first | (go_simp; done) | (go_simp; with_reducible rfl))
        try simp only [Act.put, List.setIfInBounds_toArray, List.set_cons_zero, List.set_cons_succ]
        refine wpAnyH_take (i := 27) (oi := ⟨some 54, _, _, _, _, _⟩) (v := ?_) rfl (by kernel_rfl) (by kernel_rfl) (by kernel_rfl) (fun _ _ _ h => h) (Or.inl ⟨by rfl, ?_⟩) hS0_ ?_
        rotate_left
        · (intro w_ hSw_; first | (go_simp; done) | (go_simp; with_reducible rfl))
        try simp only [Act.put, List.setIfInBounds_toArray, List.set_cons_zero, List.set_cons_succ]
        as_aux_lemma =>
          refine' wpAnyH_take (i := 28) (oi := ⟨some 55, _, _, _, _, _⟩) (v := _) rfl (by kernel_rfl) (by kernel_rfl) (by kernel_rfl) (fun _ _ _ h => h) (yields_blk (S := LwS w b mo li wa) (w.heap.size) 23 _ #[.int .i64 b, .int .i64 mo, .int .i64 li, .int .i64 wa] 23 _ (by rfl) (by rfl) (by rfl) (fun _ h_ => h_.plan) Try.underlying23 rfl (by kernel_rfl)) hS0_ ?_
          try simp only [Act.put, List.setIfInBounds_toArray, List.set_cons_zero, List.set_cons_succ]
          refine wpAnyH_take (i := 30) (oi := ⟨some 57, _, _, _, _, _⟩) (v := ?_) rfl (by kernel_rfl) (by kernel_rfl) (by kernel_rfl) (fun _ _ _ h => h) (Or.inl ⟨by rfl, ?_⟩) hS0_ ?_
          rotate_left
          · (intro w_ hSw_; first | (go_simp; done) | (go_simp; with_reducible rfl))
          try simp only [Act.put, List.setIfInBounds_toArray, List.set_cons_zero, List.set_cons_succ]
          refine wpAnyH_take (i := 31) (oi := ⟨some 58, _, _, _, _, _⟩) (v := ?_) rfl (by kernel_rfl) (by kernel_rfl) (by kernel_rfl) (fun _ _ _ h => h) (Or.inl ⟨by rfl, ?_⟩) hS0_ ?_
          rotate_left
          · (intro w_ hSw_; have hc_ := hSw_.plan.cell 0 _ rfl; first | (go_simp; done) | (go_simp; with_reducible rfl))
          try simp only [Act.put, List.setIfInBounds_toArray, List.set_cons_zero, List.set_cons_succ]
          refine wpAnyH_ready (rs := [29]) (by kernel_rfl) (by simp) ?_
          refine AllReadyH.cons rfl (fun K hK => ?_) ?_
          ·
            go_simp
            go_wp2_with ((go_at_call 6; refine (wait_b b mo li wa 1 b _ h1 h2 h3 (by omega) hb1_).mono ?_; rintro e w_ ⟨rfl, hb_⟩))
            refine hK.out _ _ ?_ (fun hS1_ => ?_)
            · exact (hS0_.next hb_)
            clear hK
            as_aux_lemma =>
              refine wpAnyH_take (i := 32) (oi := ⟨some 59, _, _, _, _, _⟩) (v := ?_) rfl (by kernel_rfl) (by kernel_rfl) (by kernel_rfl) (fun _ _ _ h => h) (Or.inl ⟨by rfl, ?_⟩) hS1_ ?_
              rotate_left
              · (intro w_ hSw_; first | (go_simp; done) | (go_simp; with_reducible rfl))
              try simp only [Act.put, List.setIfInBounds_toArray, List.set_cons_zero, List.set_cons_succ]
              refine wpAnyH_take (i := 33) (oi := ⟨some 60, _, _, _, _, _⟩) (v := ?_) rfl (by kernel_rfl) (by kernel_rfl) (by kernel_rfl) (fun _ _ _ h => h) (Or.inl ⟨by rfl, ?_⟩) hS1_ ?_
              rotate_left
              · (intro w_ hSw_; first | (go_simp; done) | (go_simp; with_reducible rfl))
              try simp only [Act.put, List.setIfInBounds_toArray, List.set_cons_zero, List.set_cons_succ]
              refine wpAnyH_take (i := 34) (oi := ⟨some 61, _, _, _, _, _⟩) (v := ?_) rfl (by kernel_rfl) (by kernel_rfl) (by kernel_rfl) (fun _ _ _ h => h) (Or.inl ⟨by rfl, ?_⟩) hS1_ ?_
              rotate_left
              · (intro w_ hSw_; first | (go_simp; done) | (go_simp; with_reducible rfl))
              try simp only [Act.put, List.setIfInBounds_toArray, List.set_cons_zero, List.set_cons_succ]
              refine' wpAnyH_take (i := 35) (oi := ⟨some 62, _, _, _, _, _⟩) (v := _) rfl (by kernel_rfl) (by kernel_rfl) (by kernel_rfl) (fun _ _ _ h => h) (yields_blk (S := LwS w b mo li wa) (w.heap.size) 23 _ #[.int .i64 b, .int .i64 mo, .int .i64 li, .int .i64 wa] 23 _ (by rfl) (by rfl) (by rfl) (fun _ h_ => h_.plan) Try.underlying23 rfl (by kernel_rfl)) hS1_ ?_
              try simp only [Act.put, List.setIfInBounds_toArray, List.set_cons_zero, List.set_cons_succ]
              refine wpAnyH_take (i := 37) (oi := ⟨some 64, _, _, _, _, _⟩) (v := ?_) rfl (by kernel_rfl) (by kernel_rfl) (by kernel_rfl) (fun _ _ _ h => h) (Or.inl ⟨by rfl, ?_⟩) hS1_ ?_
              rotate_left
              · (intro w_ hSw_; first | (go_simp; done) | (go_simp; with_reducible rfl))
              try simp only [Act.put, List.setIfInBounds_toArray, List.set_cons_zero, List.set_cons_succ]
              as_aux_lemma =>
                refine wpAnyH_take (i := 38) (oi := ⟨some 65, _, _, _, _, _⟩) (v := ?_) rfl (by kernel_rfl) (by kernel_rfl) (by kernel_rfl) (fun _ _ _ h => h) (Or.inl ⟨by rfl, ?_⟩) hS1_ ?_
                rotate_left
                · (intro w_ hSw_; have hc_ := hSw_.plan.cell 1 _ rfl; first | (go_simp; done) | (go_simp; with_reducible rfl))
                try simp only [Act.put, List.setIfInBounds_toArray, List.set_cons_zero, List.set_cons_succ]
                refine wpAnyH_ready (rs := [36]) (by kernel_rfl) (by simp) ?_
                refine AllReadyH.cons rfl (fun K hK => ?_) ?_
                ·
                  go_simp
                  go_wp2_with ((go_at_call 6; refine (wait_b b mo li wa 40 mo _ h1 h2 h3 (by omega) hb40_).mono ?_; rintro e w_ ⟨rfl, hb_⟩))
                  refine hK.out _ _ ?_ (fun hS2_ => ?_)
                  · exact (hS1_.next hb_)
                  clear hK
                  as_aux_lemma =>
                    refine wpAnyH_take (i := 39) (oi := ⟨some 66, _, _, _, _, _⟩) (v := ?_) rfl (by kernel_rfl) (by kernel_rfl) (by kernel_rfl) (fun _ _ _ h => h) (Or.inl ⟨by rfl, ?_⟩) hS2_ ?_
                    rotate_left
                    · (intro w_ hSw_; first | (go_simp; done) | (go_simp; with_reducible rfl))
                    try simp only [Act.put, List.setIfInBounds_toArray, List.set_cons_zero, List.set_cons_succ]
                    refine wpAnyH_take (i := 40) (oi := ⟨some 67, _, _, _, _, _⟩) (v := ?_) rfl (by kernel_rfl) (by kernel_rfl) (by kernel_rfl) (fun _ _ _ h => h) (Or.inl ⟨by rfl, ?_⟩) hS2_ ?_
                    rotate_left
                    · (intro w_ hSw_; first | (go_simp; done) | (go_simp; with_reducible rfl))
                    try simp only [Act.put, List.setIfInBounds_toArray, List.set_cons_zero, List.set_cons_succ]
                    refine wpAnyH_take (i := 41) (oi := ⟨some 4, _, _, _, _, _⟩) (v := ?_) rfl (by kernel_rfl) (by kernel_rfl) (by kernel_rfl) (fun _ _ _ h => h) (Or.inl ⟨by rfl, ?_⟩) hS2_ ?_
                    rotate_left
                    · (intro w_ hSw_; first | (go_simp; done) | (go_simp; with_reducible rfl))
                    try simp only [Act.put, List.setIfInBounds_toArray, List.set_cons_zero, List.set_cons_succ]
                    refine wpAnyH_done (by kernel_rfl) ?_ _
                    go_wp2
                    go_ret
                    exact ⟨rfl, hS2_.low⟩
                exact AllReadyH.nil
          exact AllReadyH.nil
theorem waits_any (b mo li wa t : Int) (w : World) : Calls Try.prog 3 #[.agg #[.int .i64 b, .int .i64 mo, .int .i64 li, .int .i64 wa], .int .i64 t] w fun e w' => e = .returned (.bool true) ∧ Below w.heap.size w w' := by
  cases hr : JdCal.right b mo li wa with
  | false => exact waits_no b mo li wa t w (Lib.hid hr)
  | true =>
    by_cases ht : t < 1 ∨ 1073741824 < t
    · exact waits_far b mo li wa t w (Lib.hid hr) ht
    · have h := hr
      simp only [JdCal.right, decide_eq_true_eq] at h
      have h1 : 1 ≤ b := by omega
      have h2 : b ≤ mo := by omega
      have h3 : mo ≤ 1048576 := by omega
      have hn := JdCal.wait_next b mo t h1 h2 (by omega)
      obtain ⟨n1, n2, n3, n4⟩ := hn
      by_cases h4 : JdCal.wait b mo (t + 1) = mo
      · exact waits_most b mo li wa t w (Lib.hid hr) h1 h2 h3 (by omega) (by omega) _ _ (Lib.hid rfl) (Lib.hid rfl) (decide_eq_true n1) (decide_eq_true n2) (decide_eq_true n3) (by simpa using h4) (by omega) (by omega)
      · exact waits_twice b mo li wa t w (Lib.hid hr) h1 h2 h3 (by omega) (by omega) _ _ (Lib.hid rfl) (Lib.hid rfl) (decide_eq_true n1) (decide_eq_true n2) (decide_eq_true n3) (by simpa using h4) (by simpa using n4.resolve_left h4) (by omega) (by omega)
theorem waits_all (b mo li wa t : Int) (ht : (Lit.int .i64 t).wf = true) (w : World) : Calls Try.prog 3 #[.agg #[.int .i64 b, .int .i64 mo, .int .i64 li, .int .i64 wa], .int .i64 t] w fun e w' => e = .returned (.bool true) ∧ Below w.heap.size w w' := waits_any b mo li wa t w
end Go.Proofs.Ytojmcejkfeaccaa
