/-
  The reference of layer 5: RightMail walked.
-/
import Derived.Test.YtfffdbjfhdkheaaGreatDoorQPfRm0
set_option linter.unusedVariables false
set_option linter.unusedSimpArgs false
namespace Go.Proofs.YtfffdbjfhdkheaaGreatDoor
open Go.RowKit Go.Shelf
set_option maxRecDepth 100000
set_option maxHeartbeats 16000000 in
theorem refRightMail_any (m : Pm.Ml) (w : World) : Calls Tryz.prog 25 #[.agg m.cells] w fun e w' => e = .returned (.int .i64 m.right) ∧ Below w.heap.size w w' := by
  have hrt := Pf.right_tests m
  obtain ⟨l0, hl0⟩ : ∃ l, Pf.wrong m.hS m.s 0 999999999 = l := ⟨_, rfl⟩
  have c0 := fun W => wrong_any m.hS m.s 0 999999999 W
  rw [hl0] at c0
  obtain ⟨l1, hl1⟩ : ∃ l, Pf.wrong m.hF m.f 1 1048576 = l := ⟨_, rfl⟩
  have c1 := fun W => wrong_any m.hF m.f 1 1048576 W
  rw [hl1] at c1
  obtain ⟨l2, hl2⟩ : ∃ l, Pf.wrong m.hU m.u 0 253402300799 = l := ⟨_, rfl⟩
  have c2 := fun W => wrong_any m.hU m.u 0 253402300799 W
  rw [hl2] at c2
  obtain ⟨l3, hl3⟩ : ∃ l, Pf.wrong m.hB m.b (Pm.least m.mode) 999999999 = l := ⟨_, rfl⟩
  have c3 := fun W => wrong_any m.hB m.b (Pm.least m.mode) 999999999 W
  rw [hl3] at c3
  obtain ⟨l4, hl4⟩ : ∃ l, Pf.wrong m.hP m.p (-9) 9 = l := ⟨_, rfl⟩
  have c4 := fun W => wrong_any m.hP m.p (-9) 9 W
  rw [hl4] at c4
  have hl : Aside (Pf.tests m 0 = l0 ∧ Pf.tests m 1 = l1 ∧ Pf.tests m 2 = l2 ∧ Pf.tests m 3 = l3 ∧ Pf.tests m 4 = l4) := ⟨hl0, hl1, hl2, hl3, hl4⟩
  have HR := Aside.mk hrt
  clear hl0 hl1 hl2 hl3 hl4 hrt
  obtain ⟨H, hH⟩ : ∃ H, w.heap.size = H := ⟨_, rfl⟩
  have B0 : Aside (Blk (w.alloc (.cells m.cells 37)) H m.cells 37) := ⟨hH ▸ Blk.new (w := w) m.cells 37⟩
  have L0 : Aside (Below H w (w.alloc (.cells m.cells 37))) := ⟨(Below.refl _ w).alloc (by omega) _⟩
  rw [hH]
  go_enter Tryz.func25, Tryz.ntmps25
  go_wp2
  refine wp_region_held_drew (S := (fun w' => Blk w' H m.cells 37 ∧ Below H w w')) (by kernel_rfl) ⟨(show Blk _ H _ _ from B0.out.below (pw_below_drewN (Below.refl _ _) 1)), L0.out.drew⟩ (fun hS0_ => ?_)
  generalize (w.alloc (.cells m.cells 37)).drew = Wd_ at hS0_ ⊢
  refine wpAnyH_take (i := 0) (oi := ⟨some 6, _, _, _, _, _⟩) (v := ?_) rfl (by kernel_rfl) (by kernel_rfl) (by kernel_rfl) (fun _ _ _ h => h) (Or.inl ⟨by rfl, ?_⟩) hS0_ ?_
  rotate_left
  · (intro w_ hSw_; first | (go_simp; done) | (go_simp; with_reducible rfl))
  try simp only [Act.put, List.setIfInBounds_toArray, List.set_cons_zero, List.set_cons_succ]
  refine wpAnyH_take (i := 1) (oi := ⟨some 7, _, _, _, _, _⟩) (v := ?_) rfl (by kernel_rfl) (by kernel_rfl) (by kernel_rfl) (fun _ _ _ h => h) (Or.inl ⟨by rfl, ?_⟩) hS0_ ?_
  rotate_left
  · (intro w_ hSw_; first | (go_simp; done) | (go_simp; with_reducible rfl))
  try simp only [Act.put, List.setIfInBounds_toArray, List.set_cons_zero, List.set_cons_succ]
  refine wpAnyH_take (i := 2) (oi := ⟨some 8, _, _, _, _, _⟩) (v := ?_) rfl (by kernel_rfl) (by kernel_rfl) (by kernel_rfl) (fun _ _ _ h => h) (Or.inl ⟨by rfl, ?_⟩) hS0_ ?_
  rotate_left
  · (intro w_ hSw_; have hc_ := (hSw_.1.cell 0 (.bool m.hS) rfl); first | (go_simp; done) | (go_simp; with_reducible rfl))
  try simp only [Act.put, List.setIfInBounds_toArray, List.set_cons_zero, List.set_cons_succ]
  refine wpAnyH_take (i := 3) (oi := ⟨some 9, _, _, _, _, _⟩) (v := ?_) rfl (by kernel_rfl) (by kernel_rfl) (by kernel_rfl) (fun _ _ _ h => h) (Or.inl ⟨by rfl, ?_⟩) hS0_ ?_
  rotate_left
  · (intro w_ hSw_; first | (go_simp; done) | (go_simp; with_reducible rfl))
  try simp only [Act.put, List.setIfInBounds_toArray, List.set_cons_zero, List.set_cons_succ]
  refine wpAnyH_take (i := 4) (oi := ⟨some 10, _, _, _, _, _⟩) (v := ?_) rfl (by kernel_rfl) (by kernel_rfl) (by kernel_rfl) (fun _ _ _ h => h) (Or.inl ⟨by rfl, ?_⟩) hS0_ ?_
  rotate_left
  · (intro w_ hSw_; have hc_ := (hSw_.1.cell 5 (.int .i64 m.s) rfl); first | (go_simp; done) | (go_simp; with_reducible rfl))
  try simp only [Act.put, List.setIfInBounds_toArray, List.set_cons_zero, List.set_cons_succ]
  refine take_still (i := 5) (oi := ⟨some 11, _, _, _, _, _⟩) (v := .int .i64 l0) rfl (by kernel_rfl) (by kernel_rfl) (by kernel_rfl) (fun _ _ _ h => h) ⟨by kernel_rfl, fun w_ => ⟨_, _, ?_, c0 w_⟩⟩ hS0_ ?_
  · go_simp
  try simp only [Act.put, List.setIfInBounds_toArray, List.set_cons_zero, List.set_cons_succ]
  refine wpAnyH_take (i := 6) (oi := ⟨some 12, _, _, _, _, _⟩) (v := ?_) rfl (by kernel_rfl) (by kernel_rfl) (by kernel_rfl) (fun _ _ _ h => h) (Or.inl ⟨by rfl, ?_⟩) hS0_ ?_
  rotate_left
  · (intro w_ hSw_; first | (go_simp; done) | (go_simp; with_reducible rfl))
  try simp only [Act.put, List.setIfInBounds_toArray, List.set_cons_zero, List.set_cons_succ]
  refine wpAnyH_take (i := 7) (oi := ⟨some 13, _, _, _, _, _⟩) (v := ?_) rfl (by kernel_rfl) (by kernel_rfl) (by kernel_rfl) (fun _ _ _ h => h) (Or.inl ⟨by rfl, ?_⟩) hS0_ ?_
  rotate_left
  · (intro w_ hSw_; first | (go_simp; done) | (go_simp; with_reducible rfl))
  try simp only [Act.put, List.setIfInBounds_toArray, List.set_cons_zero, List.set_cons_succ]
  as_aux_lemma =>
    refine wpAnyH_take (i := 8) (oi := ⟨some 14, _, _, _, _, _⟩) (v := ?_) rfl (by kernel_rfl) (by kernel_rfl) (by kernel_rfl) (fun _ _ _ h => h) (Or.inl ⟨by rfl, ?_⟩) hS0_ ?_
    rotate_left
    · (intro w_ hSw_; have hc_ := (hSw_.1.cell 1 (.bool m.hF) rfl); first | (go_simp; done) | (go_simp; with_reducible rfl))
    try simp only [Act.put, List.setIfInBounds_toArray, List.set_cons_zero, List.set_cons_succ]
    refine wpAnyH_take (i := 9) (oi := ⟨some 15, _, _, _, _, _⟩) (v := ?_) rfl (by kernel_rfl) (by kernel_rfl) (by kernel_rfl) (fun _ _ _ h => h) (Or.inl ⟨by rfl, ?_⟩) hS0_ ?_
    rotate_left
    · (intro w_ hSw_; first | (go_simp; done) | (go_simp; with_reducible rfl))
    try simp only [Act.put, List.setIfInBounds_toArray, List.set_cons_zero, List.set_cons_succ]
    refine wpAnyH_take (i := 10) (oi := ⟨some 16, _, _, _, _, _⟩) (v := ?_) rfl (by kernel_rfl) (by kernel_rfl) (by kernel_rfl) (fun _ _ _ h => h) (Or.inl ⟨by rfl, ?_⟩) hS0_ ?_
    rotate_left
    · (intro w_ hSw_; have hc_ := (hSw_.1.cell 6 (.int .i64 m.f) rfl); first | (go_simp; done) | (go_simp; with_reducible rfl))
    try simp only [Act.put, List.setIfInBounds_toArray, List.set_cons_zero, List.set_cons_succ]
    refine take_still (i := 11) (oi := ⟨some 17, _, _, _, _, _⟩) (v := .int .i64 l1) rfl (by kernel_rfl) (by kernel_rfl) (by kernel_rfl) (fun _ _ _ h => h) ⟨by kernel_rfl, fun w_ => ⟨_, _, ?_, c1 w_⟩⟩ hS0_ ?_
    · go_simp
    try simp only [Act.put, List.setIfInBounds_toArray, List.set_cons_zero, List.set_cons_succ]
    refine wpAnyH_take (i := 12) (oi := ⟨some 18, _, _, _, _, _⟩) (v := ?_) rfl (by kernel_rfl) (by kernel_rfl) (by kernel_rfl) (fun _ _ _ h => h) (Or.inl ⟨by rfl, ?_⟩) hS0_ ?_
    rotate_left
    · (intro w_ hSw_; first | (go_simp; done) | (go_simp; with_reducible rfl))
    try simp only [Act.put, List.setIfInBounds_toArray, List.set_cons_zero, List.set_cons_succ]
    refine wpAnyH_take (i := 13) (oi := ⟨some 19, _, _, _, _, _⟩) (v := ?_) rfl (by kernel_rfl) (by kernel_rfl) (by kernel_rfl) (fun _ _ _ h => h) (Or.inl ⟨by rfl, ?_⟩) hS0_ ?_
    rotate_left
    · (intro w_ hSw_; first | (go_simp; done) | (go_simp; with_reducible rfl))
    try simp only [Act.put, List.setIfInBounds_toArray, List.set_cons_zero, List.set_cons_succ]
    refine wpAnyH_take (i := 14) (oi := ⟨some 20, _, _, _, _, _⟩) (v := ?_) rfl (by kernel_rfl) (by kernel_rfl) (by kernel_rfl) (fun _ _ _ h => h) (Or.inl ⟨by rfl, ?_⟩) hS0_ ?_
    rotate_left
    · (intro w_ hSw_; have hc_ := (hSw_.1.cell 2 (.bool m.hU) rfl); first | (go_simp; done) | (go_simp; with_reducible rfl))
    try simp only [Act.put, List.setIfInBounds_toArray, List.set_cons_zero, List.set_cons_succ]
    refine wpAnyH_take (i := 15) (oi := ⟨some 21, _, _, _, _, _⟩) (v := ?_) rfl (by kernel_rfl) (by kernel_rfl) (by kernel_rfl) (fun _ _ _ h => h) (Or.inl ⟨by rfl, ?_⟩) hS0_ ?_
    rotate_left
    · (intro w_ hSw_; first | (go_simp; done) | (go_simp; with_reducible rfl))
    try simp only [Act.put, List.setIfInBounds_toArray, List.set_cons_zero, List.set_cons_succ]
    as_aux_lemma =>
      refine wpAnyH_take (i := 16) (oi := ⟨some 22, _, _, _, _, _⟩) (v := ?_) rfl (by kernel_rfl) (by kernel_rfl) (by kernel_rfl) (fun _ _ _ h => h) (Or.inl ⟨by rfl, ?_⟩) hS0_ ?_
      rotate_left
      · (intro w_ hSw_; have hc_ := (hSw_.1.cell 7 (.int .i64 m.u) rfl); first | (go_simp; done) | (go_simp; with_reducible rfl))
      try simp only [Act.put, List.setIfInBounds_toArray, List.set_cons_zero, List.set_cons_succ]
      refine take_still (i := 17) (oi := ⟨some 23, _, _, _, _, _⟩) (v := .int .i64 l2) rfl (by kernel_rfl) (by kernel_rfl) (by kernel_rfl) (fun _ _ _ h => h) ⟨by kernel_rfl, fun w_ => ⟨_, _, ?_, c2 w_⟩⟩ hS0_ ?_
      · go_simp
      try simp only [Act.put, List.setIfInBounds_toArray, List.set_cons_zero, List.set_cons_succ]
      refine wpAnyH_take (i := 18) (oi := ⟨some 24, _, _, _, _, _⟩) (v := ?_) rfl (by kernel_rfl) (by kernel_rfl) (by kernel_rfl) (fun _ _ _ h => h) (Or.inl ⟨by rfl, ?_⟩) hS0_ ?_
      rotate_left
      · (intro w_ hSw_; first | (go_simp; done) | (go_simp; with_reducible rfl))
      try simp only [Act.put, List.setIfInBounds_toArray, List.set_cons_zero, List.set_cons_succ]
      refine wpAnyH_take (i := 19) (oi := ⟨some 25, _, _, _, _, _⟩) (v := ?_) rfl (by kernel_rfl) (by kernel_rfl) (by kernel_rfl) (fun _ _ _ h => h) (Or.inl ⟨by rfl, ?_⟩) hS0_ ?_
      rotate_left
      · (intro w_ hSw_; first | (go_simp; done) | (go_simp; with_reducible rfl))
      try simp only [Act.put, List.setIfInBounds_toArray, List.set_cons_zero, List.set_cons_succ]
      refine wpAnyH_take (i := 20) (oi := ⟨some 26, _, _, _, _, _⟩) (v := ?_) rfl (by kernel_rfl) (by kernel_rfl) (by kernel_rfl) (fun _ _ _ h => h) (Or.inl ⟨by rfl, ?_⟩) hS0_ ?_
      rotate_left
      · (intro w_ hSw_; have hc_ := (hSw_.1.cell 3 (.bool m.hB) rfl); first | (go_simp; done) | (go_simp; with_reducible rfl))
      try simp only [Act.put, List.setIfInBounds_toArray, List.set_cons_zero, List.set_cons_succ]
      refine wpAnyH_take (i := 21) (oi := ⟨some 27, _, _, _, _, _⟩) (v := ?_) rfl (by kernel_rfl) (by kernel_rfl) (by kernel_rfl) (fun _ _ _ h => h) (Or.inl ⟨by rfl, ?_⟩) hS0_ ?_
      rotate_left
      · (intro w_ hSw_; first | (go_simp; done) | (go_simp; with_reducible rfl))
      try simp only [Act.put, List.setIfInBounds_toArray, List.set_cons_zero, List.set_cons_succ]
      refine wpAnyH_take (i := 22) (oi := ⟨some 28, _, _, _, _, _⟩) (v := ?_) rfl (by kernel_rfl) (by kernel_rfl) (by kernel_rfl) (fun _ _ _ h => h) (Or.inl ⟨by rfl, ?_⟩) hS0_ ?_
      rotate_left
      · (intro w_ hSw_; have hc_ := (hSw_.1.cell 8 (.int .i64 m.b) rfl); first | (go_simp; done) | (go_simp; with_reducible rfl))
      try simp only [Act.put, List.setIfInBounds_toArray, List.set_cons_zero, List.set_cons_succ]
      refine wpAnyH_take (i := 23) (oi := ⟨some 29, _, _, _, _, _⟩) (v := ?_) rfl (by kernel_rfl) (by kernel_rfl) (by kernel_rfl) (fun _ _ _ h => h) (Or.inl ⟨by rfl, ?_⟩) hS0_ ?_
      rotate_left
      · (intro w_ hSw_; first | (go_simp; done) | (go_simp; with_reducible rfl))
      try simp only [Act.put, List.setIfInBounds_toArray, List.set_cons_zero, List.set_cons_succ]
      as_aux_lemma =>
        refine wpAnyH_take (i := 24) (oi := ⟨some 30, _, _, _, _, _⟩) (v := ?_) rfl (by kernel_rfl) (by kernel_rfl) (by kernel_rfl) (fun _ _ _ h => h) (Or.inl ⟨by rfl, ?_⟩) hS0_ ?_
        rotate_left
        · (intro w_ hSw_; have hc_ := (hSw_.1.cell 13 (.string m.mode) rfl); first | (go_simp; done) | (go_simp; with_reducible rfl))
        try simp only [Act.put, List.setIfInBounds_toArray, List.set_cons_zero, List.set_cons_succ]
        refine take_still (i := 25) (oi := ⟨some 31, _, _, _, _, _⟩) (v := .int .i64 (Pm.least m.mode)) rfl (by kernel_rfl) (by kernel_rfl) (by kernel_rfl) (fun _ _ _ h => h) ⟨by kernel_rfl, fun w_ => ⟨_, _, ?_, refLeast_any m.mode w_⟩⟩ hS0_ ?_
        · go_simp
        try simp only [Act.put, List.setIfInBounds_toArray, List.set_cons_zero, List.set_cons_succ]
        refine take_still (i := 26) (oi := ⟨some 32, _, _, _, _, _⟩) (v := .int .i64 l3) rfl (by kernel_rfl) (by kernel_rfl) (by kernel_rfl) (fun _ _ _ h => h) ⟨by kernel_rfl, fun w_ => ⟨_, _, ?_, c3 w_⟩⟩ hS0_ ?_
        · go_simp
        try simp only [Act.put, List.setIfInBounds_toArray, List.set_cons_zero, List.set_cons_succ]
        refine wpAnyH_take (i := 27) (oi := ⟨some 33, _, _, _, _, _⟩) (v := ?_) rfl (by kernel_rfl) (by kernel_rfl) (by kernel_rfl) (fun _ _ _ h => h) (Or.inl ⟨by rfl, ?_⟩) hS0_ ?_
        rotate_left
        · (intro w_ hSw_; first | (go_simp; done) | (go_simp; with_reducible rfl))
        try simp only [Act.put, List.setIfInBounds_toArray, List.set_cons_zero, List.set_cons_succ]
        refine wpAnyH_take (i := 28) (oi := ⟨some 34, _, _, _, _, _⟩) (v := ?_) rfl (by kernel_rfl) (by kernel_rfl) (by kernel_rfl) (fun _ _ _ h => h) (Or.inl ⟨by rfl, ?_⟩) hS0_ ?_
        rotate_left
        · (intro w_ hSw_; first | (go_simp; done) | (go_simp; with_reducible rfl))
        try simp only [Act.put, List.setIfInBounds_toArray, List.set_cons_zero, List.set_cons_succ]
        refine wpAnyH_take (i := 29) (oi := ⟨some 35, _, _, _, _, _⟩) (v := ?_) rfl (by kernel_rfl) (by kernel_rfl) (by kernel_rfl) (fun _ _ _ h => h) (Or.inl ⟨by rfl, ?_⟩) hS0_ ?_
        rotate_left
        · (intro w_ hSw_; have hc_ := (hSw_.1.cell 4 (.bool m.hP) rfl); first | (go_simp; done) | (go_simp; with_reducible rfl))
        try simp only [Act.put, List.setIfInBounds_toArray, List.set_cons_zero, List.set_cons_succ]
        refine wpAnyH_take (i := 30) (oi := ⟨some 36, _, _, _, _, _⟩) (v := ?_) rfl (by kernel_rfl) (by kernel_rfl) (by kernel_rfl) (fun _ _ _ h => h) (Or.inl ⟨by rfl, ?_⟩) hS0_ ?_
        rotate_left
        · (intro w_ hSw_; first | (go_simp; done) | (go_simp; with_reducible rfl))
        try simp only [Act.put, List.setIfInBounds_toArray, List.set_cons_zero, List.set_cons_succ]
        refine wpAnyH_take (i := 31) (oi := ⟨some 37, _, _, _, _, _⟩) (v := ?_) rfl (by kernel_rfl) (by kernel_rfl) (by kernel_rfl) (fun _ _ _ h => h) (Or.inl ⟨by rfl, ?_⟩) hS0_ ?_
        rotate_left
        · (intro w_ hSw_; have hc_ := (hSw_.1.cell 9 (.int .i64 m.p) rfl); first | (go_simp; done) | (go_simp; with_reducible rfl))
        try simp only [Act.put, List.setIfInBounds_toArray, List.set_cons_zero, List.set_cons_succ]
        as_aux_lemma =>
          refine take_still (i := 32) (oi := ⟨some 38, _, _, _, _, _⟩) (v := .int .i64 l4) rfl (by kernel_rfl) (by kernel_rfl) (by kernel_rfl) (fun _ _ _ h => h) ⟨by kernel_rfl, fun w_ => ⟨_, _, ?_, c4 w_⟩⟩ hS0_ ?_
          · go_simp
          try simp only [Act.put, List.setIfInBounds_toArray, List.set_cons_zero, List.set_cons_succ]
          refine wpAnyH_take (i := 33) (oi := ⟨some 39, _, _, _, _, _⟩) (v := ?_) rfl (by kernel_rfl) (by kernel_rfl) (by kernel_rfl) (fun _ _ _ h => h) (Or.inl ⟨by rfl, ?_⟩) hS0_ ?_
          rotate_left
          · (intro w_ hSw_; first | (go_simp; done) | (go_simp; with_reducible rfl))
          try simp only [Act.put, List.setIfInBounds_toArray, List.set_cons_zero, List.set_cons_succ]
          refine wpAnyH_ready (rs := [34]) (by kernel_rfl) (by simp) ?_
          refine AllReadyH.cons rfl (fun K hK => ?_) ?_
          ·
            have hB_ := Aside.mk (Blk.new (w := Wd_) #[.int .i64 0, .int .i64 0, .int .i64 0, .int .i64 0, .int .i64 0] 104)
            go_simp
            refine hK.out _ _ ?_ (fun hS1_ => ?_)
            · exact ⟨hS0_.1.old _, hS0_.2.alloc (by have := hS0_.2.size; omega) _⟩
            clear hK
            as_aux_lemma =>
              refine wpAnyH_ready (rs := [35]) (by kernel_rfl) (by simp) ?_
              refine AllReadyH.cons rfl (fun K hK => ?_) ?_
              ·
                have hne_ : H ≠ Wd_.heap.size := by have := hS0_.1.lt; omega
                have hle_ : H ≤ Wd_.heap.size := by have := hS0_.2.size; omega
                refine store_step rfl 104 _ _ rfl Wd_.heap.size (by rfl) #[.int .i64 0, .int .i64 0, .int .i64 0, .int .i64 0, .int .i64 0] #[.int .i64 l0, .int .i64 l1, .int .i64 l2, .int .i64 l3, .int .i64 l4] 104 hB_.out (by rfl) rfl (by kernel_rfl) (by simp [Value.oneCell']) ?_
                intro W5_ hA_ hC_
                refine hK.out _ _ ?_ (fun hS2_ => ?_)
                · exact ⟨hS1_.1.chg hC_ hne_, hS1_.2.trans ⟨hC_.os, hC_.tape, hC_.output, hC_.size, fun k_ hk_ => hC_.block k_ (by have := hS1_.2.size; simp; omega) (by omega)⟩⟩
                clear hK
                as_aux_lemma =>
                  refine wpAnyH_done (by kernel_rfl) ?_ _
                  have L5 := Aside.mk hS2_
                  obtain ⟨G, hG⟩ : ∃ G, Wd_.heap.size = G := ⟨_, rfl⟩
                  rw [hG] at hA_ ⊢
                  have hzz : Aside (∀ W, Blk W G #[.int .i64 l0, .int .i64 l1, .int .i64 l2, .int .i64 l3, .int .i64 l4] 104 → ∀ k, k < 5 → W.cell? ⟨G, k, none⟩ = some (.int .i64 (Pf.tests m k))) := ⟨fun W hA k hk => by
                    obtain ⟨e0, e1, e2, e3, e4⟩ := hl.out
                    match k, hk with
                    | 0, _ => rw [e0]; exact hA.cell 0 _ rfl
                    | 1, _ => rw [e1]; exact hA.cell 1 _ rfl
                    | 2, _ => rw [e2]; exact hA.cell 2 _ rfl
                    | 3, _ => rw [e3]; exact hA.cell 3 _ rfl
                    | 4, _ => rw [e4]; exact hA.cell 4 _ rfl⟩
                  have HZ := Aside.mk (hzz.out _ hA_)
                  have HA5 := Aside.mk hA_
                  clear hA_ hl c0 c1 c2 c3 c4 hB_ hS0_ hS1_ hS2_ hC_ hne_ hle_ hG
                  go_wp2
                  go_loopw [4] (fun i wr => wr = W5_ ∧ ∃ k : Nat, k ≤ 5 ∧ i = .int .i64 k ∧ ∀ j, j < k → Pf.tests m j ≠ 2) (fun i _ => 5 - (intOf i).toNat)
                  case atStart => exact ⟨rfl, 0, by omega, rfl, fun j hj => absurd hj (by omega)⟩
                  case round =>
                    obtain ⟨rfl, k, hk, rfl, hno⟩ := hrel
                    have HN := Aside.mk hno
                    clear hno
                    by_cases hlt : k < 5
                    · have z := HZ.out k hlt
                      by_cases h2 : Pf.tests m k = 2
                      · rw [h2] at z
                        have HH : Aside (m.right = 2) := ⟨by rw [HR.out, if_pos ((Pf.hit_iff m 2).2 ⟨k, hlt, h2⟩)]⟩
                        clear h2
                        go_wp2
                        go_ret
                        exact ⟨by rw [HH.out]; rfl, L5.out.2⟩
                      · have HH := Aside.mk h2
                        have hb2 : (Pf.tests m k == 2) = false := by simpa using h2
                        clear h2
                        go_wp2
                        go_roundw
                        case rel => exact ⟨by first | trivial | rfl, k + 1, by omega, by go_num, fun j hj => by rcases Nat.lt_or_ge j k with q | q; exact HN.out j q; exact (show j = k by omega) ▸ HH.out⟩
                        case measure => first | (simp [intOf]; done) | (simp [intOf]; omega)
                    · have hke : k = 5 := by omega
                      subst hke
                      have hnh : Pf.hit m 2 = false := Bool.eq_false_iff.2 (fun q => by obtain ⟨j, hj, he⟩ := (Pf.hit_iff m 2).1 q; exact HN.out j hj he)
                      have hr1 := HR.out
                      rw [if_neg (by rw [hnh]; decide)] at hr1
                      clear hnh HN HR HZ
                      obtain ⟨t5, q5⟩ : ∃ t, Lib.containsS [⟨#[]⟩, ⟨#[55, 66, 73, 84]⟩, ⟨#[56, 66, 73, 84, 77, 73, 77, 69]⟩] m.body = t := ⟨_, rfl⟩
                      rw [Pf.among_cons m.body [⟨#[55, 66, 73, 84]⟩, ⟨#[56, 66, 73, 84, 77, 73, 77, 69]⟩], q5] at hr1
                      have HC5 := Lib.hid (show (#[.string ⟨#[]⟩, .string ⟨#[55, 66, 73, 84]⟩, .string ⟨#[56, 66, 73, 84, 77, 73, 77, 69]⟩] : Array Value) = (([⟨#[]⟩, ⟨#[55, 66, 73, 84]⟩, ⟨#[56, 66, 73, 84, 77, 73, 77, 69]⟩] : List ByteArray).map Value.string).toArray from rfl)
                      obtain ⟨t6, q6⟩ : ∃ t, Lib.containsS [⟨#[]⟩, ⟨#[70, 85, 76, 76]⟩, ⟨#[72, 68, 82, 83]⟩] m.ret = t := ⟨_, rfl⟩
                      rw [Pf.among_cons m.ret [⟨#[70, 85, 76, 76]⟩, ⟨#[72, 68, 82, 83]⟩], q6] at hr1
                      have HC6 := Lib.hid (show (#[.string ⟨#[]⟩, .string ⟨#[70, 85, 76, 76]⟩, .string ⟨#[72, 68, 82, 83]⟩] : Array Value) = (([⟨#[]⟩, ⟨#[70, 85, 76, 76]⟩, ⟨#[72, 68, 82, 83]⟩] : List ByteArray).map Value.string).toArray from rfl)
                      obtain ⟨t7, q7⟩ : ∃ t, Lib.containsS [⟨#[]⟩, ⟨#[82]⟩, ⟨#[78]⟩, ⟨#[82, 84]⟩, ⟨#[78, 84]⟩] m.mode = t := ⟨_, rfl⟩
                      rw [Pf.among_cons m.mode [⟨#[82]⟩, ⟨#[78]⟩, ⟨#[82, 84]⟩, ⟨#[78, 84]⟩], q7] at hr1
                      have HC7 := Lib.hid (show (#[.string ⟨#[]⟩, .string ⟨#[82]⟩, .string ⟨#[78]⟩, .string ⟨#[82, 84]⟩, .string ⟨#[78, 84]⟩] : Array Value) = (([⟨#[]⟩, ⟨#[82]⟩, ⟨#[78]⟩, ⟨#[82, 84]⟩, ⟨#[78, 84]⟩] : List ByteArray).map Value.string).toArray from rfl)
                      obtain ⟨em, hem⟩ : ∃ t, (m.mode.toList == []) = t := ⟨_, rfl⟩
                      have hem2 : (m.mode.toList != []) = !em := by rw [← hem]; rfl
                      rw [show Pm.empty m.mode = em from hem] at hr1
                      obtain ⟨vB, hB⟩ : ∃ t, m.hB = t := ⟨_, rfl⟩
                      obtain ⟨vF, hF⟩ : ∃ t, m.hF = t := ⟨_, rfl⟩
                      obtain ⟨vU, hU⟩ : ∃ t, m.hU = t := ⟨_, rfl⟩
                      rw [hB] at hr1
                      have x1 := L5.out.1.cell 1 (.bool m.hF) rfl; rw [hF] at x1
                      have x2 := L5.out.1.cell 2 (.bool m.hU) rfl; rw [hU] at x2
                      have x3 := L5.out.1.cell 3 (.bool m.hB) rfl; rw [hB] at x3
                      have x10 := L5.out.1.cell 10 (.string m.body) rfl
                      have x11 := L5.out.1.cell 11 (.string m.ret) rfl
                      have x12 := L5.out.1.cell 12 (.string m.envid) rfl
                      have x13 := L5.out.1.cell 13 (.string m.mode) rfl
                      cases t5 with
                      | false =>
                        have HR : Aside (m.right = 2) := ⟨by rw [hr1]; rfl⟩
                        clear hr1
                        go_wp2_with (first | ((with_reducible refine at_dst (N := 50) rfl ?_); refine strs_lit (by kernel_rfl) 3 _ (by rfl) [⟨#[]⟩, ⟨#[55, 66, 73, 84]⟩, ⟨#[56, 66, 73, 84, 77, 73, 77, 69]⟩] rfl (by decide) (by decide) (by rfl) #[.string ⟨#[]⟩, .string ⟨#[55, 66, 73, 84]⟩, .string ⟨#[56, 66, 73, 84, 77, 73, 77, 69]⟩] (by rfl) _ rfl ?_) | ((with_reducible refine at_dst (N := 56) rfl ?_); refine strs_lit (by kernel_rfl) 3 _ (by rfl) [⟨#[]⟩, ⟨#[70, 85, 76, 76]⟩, ⟨#[72, 68, 82, 83]⟩] rfl (by decide) (by decide) (by rfl) #[.string ⟨#[]⟩, .string ⟨#[70, 85, 76, 76]⟩, .string ⟨#[72, 68, 82, 83]⟩] (by rfl) _ rfl ?_) | ((with_reducible refine at_dst (N := 63) rfl ?_); refine strs_lit (by kernel_rfl) 5 _ (by rfl) [⟨#[]⟩, ⟨#[82]⟩, ⟨#[78]⟩, ⟨#[82, 84]⟩, ⟨#[78, 84]⟩] rfl (by decide) (by decide) (by rfl) #[.string ⟨#[]⟩, .string ⟨#[82]⟩, .string ⟨#[78]⟩, .string ⟨#[82, 84]⟩, .string ⟨#[78, 84]⟩] (by rfl) _ rfl ?_) | (go_at_call 68; first | ((with_reducible refine Pf.at_args (s := m.body) (n := 3) ?_); (with_reducible refine (amongR_fresh m.body [⟨#[]⟩, ⟨#[55, 66, 73, 84]⟩, ⟨#[56, 66, 73, 84, 77, 73, 77, 69]⟩] #[.string ⟨#[]⟩, .string ⟨#[55, 66, 73, 84]⟩, .string ⟨#[56, 66, 73, 84, 77, 73, 77, 69]⟩] HC5.out 3 (show List.length _ = _ from rfl) (by decide) _ q5 _ _ rfl).mono ?_); rintro e W_ ⟨rfl, hb_⟩; replace L5 := Aside.mk (show Blk _ H _ _ ∧ Below H _ _ from ⟨L5.out.1.below hb_, L5.out.2.trans (hb_.mono (by have := L5.out.2.size; omega))⟩); replace HA5 := Aside.mk (HA5.out.below hb_); clear hb_; clear x1 x2 x3 x10 x11 x12 x13; have x1 := L5.out.1.cell 1 (.bool m.hF) rfl; rw [hF] at x1; have x2 := L5.out.1.cell 2 (.bool m.hU) rfl; rw [hU] at x2; have x3 := L5.out.1.cell 3 (.bool m.hB) rfl; rw [hB] at x3; have x10 := L5.out.1.cell 10 (.string m.body) rfl; have x11 := L5.out.1.cell 11 (.string m.ret) rfl; have x12 := L5.out.1.cell 12 (.string m.envid) rfl; have x13 := L5.out.1.cell 13 (.string m.mode) rfl) | ((with_reducible refine Pf.at_args (s := m.ret) (n := 3) ?_); (with_reducible refine (amongR_fresh m.ret [⟨#[]⟩, ⟨#[70, 85, 76, 76]⟩, ⟨#[72, 68, 82, 83]⟩] #[.string ⟨#[]⟩, .string ⟨#[70, 85, 76, 76]⟩, .string ⟨#[72, 68, 82, 83]⟩] HC6.out 3 (show List.length _ = _ from rfl) (by decide) _ q6 _ _ rfl).mono ?_); rintro e W_ ⟨rfl, hb_⟩; replace L5 := Aside.mk (show Blk _ H _ _ ∧ Below H _ _ from ⟨L5.out.1.below hb_, L5.out.2.trans (hb_.mono (by have := L5.out.2.size; omega))⟩); replace HA5 := Aside.mk (HA5.out.below hb_); clear hb_; clear x1 x2 x3 x10 x11 x12 x13; have x1 := L5.out.1.cell 1 (.bool m.hF) rfl; rw [hF] at x1; have x2 := L5.out.1.cell 2 (.bool m.hU) rfl; rw [hU] at x2; have x3 := L5.out.1.cell 3 (.bool m.hB) rfl; rw [hB] at x3; have x10 := L5.out.1.cell 10 (.string m.body) rfl; have x11 := L5.out.1.cell 11 (.string m.ret) rfl; have x12 := L5.out.1.cell 12 (.string m.envid) rfl; have x13 := L5.out.1.cell 13 (.string m.mode) rfl) | ((with_reducible refine Pf.at_args (s := m.mode) (n := 5) ?_); (with_reducible refine (amongR_fresh m.mode [⟨#[]⟩, ⟨#[82]⟩, ⟨#[78]⟩, ⟨#[82, 84]⟩, ⟨#[78, 84]⟩] #[.string ⟨#[]⟩, .string ⟨#[82]⟩, .string ⟨#[78]⟩, .string ⟨#[82, 84]⟩, .string ⟨#[78, 84]⟩] HC7.out 5 (show List.length _ = _ from rfl) (by decide) _ q7 _ _ rfl).mono ?_); rintro e W_ ⟨rfl, hb_⟩; replace L5 := Aside.mk (show Blk _ H _ _ ∧ Below H _ _ from ⟨L5.out.1.below hb_, L5.out.2.trans (hb_.mono (by have := L5.out.2.size; omega))⟩); replace HA5 := Aside.mk (HA5.out.below hb_); clear hb_; clear x1 x2 x3 x10 x11 x12 x13; have x1 := L5.out.1.cell 1 (.bool m.hF) rfl; rw [hF] at x1; have x2 := L5.out.1.cell 2 (.bool m.hU) rfl; rw [hU] at x2; have x3 := L5.out.1.cell 3 (.bool m.hB) rfl; rw [hB] at x3; have x10 := L5.out.1.cell 10 (.string m.body) rfl; have x11 := L5.out.1.cell 11 (.string m.ret) rfl; have x12 := L5.out.1.cell 12 (.string m.envid) rfl; have x13 := L5.out.1.cell 13 (.string m.mode) rfl)))
                        go_ret
                        exact ⟨by rw [HR.out]; rfl, L5.out.2⟩
                      | true =>
                        cases t6 with
                        | false =>
                          have HR : Aside (m.right = 2) := ⟨by rw [hr1]; rfl⟩
                          clear hr1
                          go_wp2_with (first | ((with_reducible refine at_dst (N := 50) rfl ?_); refine strs_lit (by kernel_rfl) 3 _ (by rfl) [⟨#[]⟩, ⟨#[55, 66, 73, 84]⟩, ⟨#[56, 66, 73, 84, 77, 73, 77, 69]⟩] rfl (by decide) (by decide) (by rfl) #[.string ⟨#[]⟩, .string ⟨#[55, 66, 73, 84]⟩, .string ⟨#[56, 66, 73, 84, 77, 73, 77, 69]⟩] (by rfl) _ rfl ?_) | ((with_reducible refine at_dst (N := 56) rfl ?_); refine strs_lit (by kernel_rfl) 3 _ (by rfl) [⟨#[]⟩, ⟨#[70, 85, 76, 76]⟩, ⟨#[72, 68, 82, 83]⟩] rfl (by decide) (by decide) (by rfl) #[.string ⟨#[]⟩, .string ⟨#[70, 85, 76, 76]⟩, .string ⟨#[72, 68, 82, 83]⟩] (by rfl) _ rfl ?_) | ((with_reducible refine at_dst (N := 63) rfl ?_); refine strs_lit (by kernel_rfl) 5 _ (by rfl) [⟨#[]⟩, ⟨#[82]⟩, ⟨#[78]⟩, ⟨#[82, 84]⟩, ⟨#[78, 84]⟩] rfl (by decide) (by decide) (by rfl) #[.string ⟨#[]⟩, .string ⟨#[82]⟩, .string ⟨#[78]⟩, .string ⟨#[82, 84]⟩, .string ⟨#[78, 84]⟩] (by rfl) _ rfl ?_) | (go_at_call 68; first | ((with_reducible refine Pf.at_args (s := m.body) (n := 3) ?_); (with_reducible refine (amongR_fresh m.body [⟨#[]⟩, ⟨#[55, 66, 73, 84]⟩, ⟨#[56, 66, 73, 84, 77, 73, 77, 69]⟩] #[.string ⟨#[]⟩, .string ⟨#[55, 66, 73, 84]⟩, .string ⟨#[56, 66, 73, 84, 77, 73, 77, 69]⟩] HC5.out 3 (show List.length _ = _ from rfl) (by decide) _ q5 _ _ rfl).mono ?_); rintro e W_ ⟨rfl, hb_⟩; replace L5 := Aside.mk (show Blk _ H _ _ ∧ Below H _ _ from ⟨L5.out.1.below hb_, L5.out.2.trans (hb_.mono (by have := L5.out.2.size; omega))⟩); replace HA5 := Aside.mk (HA5.out.below hb_); clear hb_; clear x1 x2 x3 x10 x11 x12 x13; have x1 := L5.out.1.cell 1 (.bool m.hF) rfl; rw [hF] at x1; have x2 := L5.out.1.cell 2 (.bool m.hU) rfl; rw [hU] at x2; have x3 := L5.out.1.cell 3 (.bool m.hB) rfl; rw [hB] at x3; have x10 := L5.out.1.cell 10 (.string m.body) rfl; have x11 := L5.out.1.cell 11 (.string m.ret) rfl; have x12 := L5.out.1.cell 12 (.string m.envid) rfl; have x13 := L5.out.1.cell 13 (.string m.mode) rfl) | ((with_reducible refine Pf.at_args (s := m.ret) (n := 3) ?_); (with_reducible refine (amongR_fresh m.ret [⟨#[]⟩, ⟨#[70, 85, 76, 76]⟩, ⟨#[72, 68, 82, 83]⟩] #[.string ⟨#[]⟩, .string ⟨#[70, 85, 76, 76]⟩, .string ⟨#[72, 68, 82, 83]⟩] HC6.out 3 (show List.length _ = _ from rfl) (by decide) _ q6 _ _ rfl).mono ?_); rintro e W_ ⟨rfl, hb_⟩; replace L5 := Aside.mk (show Blk _ H _ _ ∧ Below H _ _ from ⟨L5.out.1.below hb_, L5.out.2.trans (hb_.mono (by have := L5.out.2.size; omega))⟩); replace HA5 := Aside.mk (HA5.out.below hb_); clear hb_; clear x1 x2 x3 x10 x11 x12 x13; have x1 := L5.out.1.cell 1 (.bool m.hF) rfl; rw [hF] at x1; have x2 := L5.out.1.cell 2 (.bool m.hU) rfl; rw [hU] at x2; have x3 := L5.out.1.cell 3 (.bool m.hB) rfl; rw [hB] at x3; have x10 := L5.out.1.cell 10 (.string m.body) rfl; have x11 := L5.out.1.cell 11 (.string m.ret) rfl; have x12 := L5.out.1.cell 12 (.string m.envid) rfl; have x13 := L5.out.1.cell 13 (.string m.mode) rfl) | ((with_reducible refine Pf.at_args (s := m.mode) (n := 5) ?_); (with_reducible refine (amongR_fresh m.mode [⟨#[]⟩, ⟨#[82]⟩, ⟨#[78]⟩, ⟨#[82, 84]⟩, ⟨#[78, 84]⟩] #[.string ⟨#[]⟩, .string ⟨#[82]⟩, .string ⟨#[78]⟩, .string ⟨#[82, 84]⟩, .string ⟨#[78, 84]⟩] HC7.out 5 (show List.length _ = _ from rfl) (by decide) _ q7 _ _ rfl).mono ?_); rintro e W_ ⟨rfl, hb_⟩; replace L5 := Aside.mk (show Blk _ H _ _ ∧ Below H _ _ from ⟨L5.out.1.below hb_, L5.out.2.trans (hb_.mono (by have := L5.out.2.size; omega))⟩); replace HA5 := Aside.mk (HA5.out.below hb_); clear hb_; clear x1 x2 x3 x10 x11 x12 x13; have x1 := L5.out.1.cell 1 (.bool m.hF) rfl; rw [hF] at x1; have x2 := L5.out.1.cell 2 (.bool m.hU) rfl; rw [hU] at x2; have x3 := L5.out.1.cell 3 (.bool m.hB) rfl; rw [hB] at x3; have x10 := L5.out.1.cell 10 (.string m.body) rfl; have x11 := L5.out.1.cell 11 (.string m.ret) rfl; have x12 := L5.out.1.cell 12 (.string m.envid) rfl; have x13 := L5.out.1.cell 13 (.string m.mode) rfl)))
                          go_ret
                          exact ⟨by rw [HR.out]; rfl, L5.out.2⟩
                        | true =>
                          cases t7 with
                          | false =>
                            have HR : Aside (m.right = 2) := ⟨by rw [hr1]; rfl⟩
                            clear hr1
                            go_wp2_with (first | ((with_reducible refine at_dst (N := 50) rfl ?_); refine strs_lit (by kernel_rfl) 3 _ (by rfl) [⟨#[]⟩, ⟨#[55, 66, 73, 84]⟩, ⟨#[56, 66, 73, 84, 77, 73, 77, 69]⟩] rfl (by decide) (by decide) (by rfl) #[.string ⟨#[]⟩, .string ⟨#[55, 66, 73, 84]⟩, .string ⟨#[56, 66, 73, 84, 77, 73, 77, 69]⟩] (by rfl) _ rfl ?_) | ((with_reducible refine at_dst (N := 56) rfl ?_); refine strs_lit (by kernel_rfl) 3 _ (by rfl) [⟨#[]⟩, ⟨#[70, 85, 76, 76]⟩, ⟨#[72, 68, 82, 83]⟩] rfl (by decide) (by decide) (by rfl) #[.string ⟨#[]⟩, .string ⟨#[70, 85, 76, 76]⟩, .string ⟨#[72, 68, 82, 83]⟩] (by rfl) _ rfl ?_) | ((with_reducible refine at_dst (N := 63) rfl ?_); refine strs_lit (by kernel_rfl) 5 _ (by rfl) [⟨#[]⟩, ⟨#[82]⟩, ⟨#[78]⟩, ⟨#[82, 84]⟩, ⟨#[78, 84]⟩] rfl (by decide) (by decide) (by rfl) #[.string ⟨#[]⟩, .string ⟨#[82]⟩, .string ⟨#[78]⟩, .string ⟨#[82, 84]⟩, .string ⟨#[78, 84]⟩] (by rfl) _ rfl ?_) | (go_at_call 68; first | ((with_reducible refine Pf.at_args (s := m.body) (n := 3) ?_); (with_reducible refine (amongR_fresh m.body [⟨#[]⟩, ⟨#[55, 66, 73, 84]⟩, ⟨#[56, 66, 73, 84, 77, 73, 77, 69]⟩] #[.string ⟨#[]⟩, .string ⟨#[55, 66, 73, 84]⟩, .string ⟨#[56, 66, 73, 84, 77, 73, 77, 69]⟩] HC5.out 3 (show List.length _ = _ from rfl) (by decide) _ q5 _ _ rfl).mono ?_); rintro e W_ ⟨rfl, hb_⟩; replace L5 := Aside.mk (show Blk _ H _ _ ∧ Below H _ _ from ⟨L5.out.1.below hb_, L5.out.2.trans (hb_.mono (by have := L5.out.2.size; omega))⟩); replace HA5 := Aside.mk (HA5.out.below hb_); clear hb_; clear x1 x2 x3 x10 x11 x12 x13; have x1 := L5.out.1.cell 1 (.bool m.hF) rfl; rw [hF] at x1; have x2 := L5.out.1.cell 2 (.bool m.hU) rfl; rw [hU] at x2; have x3 := L5.out.1.cell 3 (.bool m.hB) rfl; rw [hB] at x3; have x10 := L5.out.1.cell 10 (.string m.body) rfl; have x11 := L5.out.1.cell 11 (.string m.ret) rfl; have x12 := L5.out.1.cell 12 (.string m.envid) rfl; have x13 := L5.out.1.cell 13 (.string m.mode) rfl) | ((with_reducible refine Pf.at_args (s := m.ret) (n := 3) ?_); (with_reducible refine (amongR_fresh m.ret [⟨#[]⟩, ⟨#[70, 85, 76, 76]⟩, ⟨#[72, 68, 82, 83]⟩] #[.string ⟨#[]⟩, .string ⟨#[70, 85, 76, 76]⟩, .string ⟨#[72, 68, 82, 83]⟩] HC6.out 3 (show List.length _ = _ from rfl) (by decide) _ q6 _ _ rfl).mono ?_); rintro e W_ ⟨rfl, hb_⟩; replace L5 := Aside.mk (show Blk _ H _ _ ∧ Below H _ _ from ⟨L5.out.1.below hb_, L5.out.2.trans (hb_.mono (by have := L5.out.2.size; omega))⟩); replace HA5 := Aside.mk (HA5.out.below hb_); clear hb_; clear x1 x2 x3 x10 x11 x12 x13; have x1 := L5.out.1.cell 1 (.bool m.hF) rfl; rw [hF] at x1; have x2 := L5.out.1.cell 2 (.bool m.hU) rfl; rw [hU] at x2; have x3 := L5.out.1.cell 3 (.bool m.hB) rfl; rw [hB] at x3; have x10 := L5.out.1.cell 10 (.string m.body) rfl; have x11 := L5.out.1.cell 11 (.string m.ret) rfl; have x12 := L5.out.1.cell 12 (.string m.envid) rfl; have x13 := L5.out.1.cell 13 (.string m.mode) rfl) | ((with_reducible refine Pf.at_args (s := m.mode) (n := 5) ?_); (with_reducible refine (amongR_fresh m.mode [⟨#[]⟩, ⟨#[82]⟩, ⟨#[78]⟩, ⟨#[82, 84]⟩, ⟨#[78, 84]⟩] #[.string ⟨#[]⟩, .string ⟨#[82]⟩, .string ⟨#[78]⟩, .string ⟨#[82, 84]⟩, .string ⟨#[78, 84]⟩] HC7.out 5 (show List.length _ = _ from rfl) (by decide) _ q7 _ _ rfl).mono ?_); rintro e W_ ⟨rfl, hb_⟩; replace L5 := Aside.mk (show Blk _ H _ _ ∧ Below H _ _ from ⟨L5.out.1.below hb_, L5.out.2.trans (hb_.mono (by have := L5.out.2.size; omega))⟩); replace HA5 := Aside.mk (HA5.out.below hb_); clear hb_; clear x1 x2 x3 x10 x11 x12 x13; have x1 := L5.out.1.cell 1 (.bool m.hF) rfl; rw [hF] at x1; have x2 := L5.out.1.cell 2 (.bool m.hU) rfl; rw [hU] at x2; have x3 := L5.out.1.cell 3 (.bool m.hB) rfl; rw [hB] at x3; have x10 := L5.out.1.cell 10 (.string m.body) rfl; have x11 := L5.out.1.cell 11 (.string m.ret) rfl; have x12 := L5.out.1.cell 12 (.string m.envid) rfl; have x13 := L5.out.1.cell 13 (.string m.mode) rfl)))
                            go_ret
                            exact ⟨by rw [HR.out]; rfl, L5.out.2⟩
                          | true =>
                            cases em with
                            | false =>
                              cases vB with
                              | false =>
                                have HR : Aside (m.right = 2) := ⟨by rw [hr1]; rfl⟩
                                clear hr1
                                go_wp2_with (first | ((with_reducible refine at_dst (N := 50) rfl ?_); refine strs_lit (by kernel_rfl) 3 _ (by rfl) [⟨#[]⟩, ⟨#[55, 66, 73, 84]⟩, ⟨#[56, 66, 73, 84, 77, 73, 77, 69]⟩] rfl (by decide) (by decide) (by rfl) #[.string ⟨#[]⟩, .string ⟨#[55, 66, 73, 84]⟩, .string ⟨#[56, 66, 73, 84, 77, 73, 77, 69]⟩] (by rfl) _ rfl ?_) | ((with_reducible refine at_dst (N := 56) rfl ?_); refine strs_lit (by kernel_rfl) 3 _ (by rfl) [⟨#[]⟩, ⟨#[70, 85, 76, 76]⟩, ⟨#[72, 68, 82, 83]⟩] rfl (by decide) (by decide) (by rfl) #[.string ⟨#[]⟩, .string ⟨#[70, 85, 76, 76]⟩, .string ⟨#[72, 68, 82, 83]⟩] (by rfl) _ rfl ?_) | ((with_reducible refine at_dst (N := 63) rfl ?_); refine strs_lit (by kernel_rfl) 5 _ (by rfl) [⟨#[]⟩, ⟨#[82]⟩, ⟨#[78]⟩, ⟨#[82, 84]⟩, ⟨#[78, 84]⟩] rfl (by decide) (by decide) (by rfl) #[.string ⟨#[]⟩, .string ⟨#[82]⟩, .string ⟨#[78]⟩, .string ⟨#[82, 84]⟩, .string ⟨#[78, 84]⟩] (by rfl) _ rfl ?_) | (go_at_call 68; first | ((with_reducible refine Pf.at_args (s := m.body) (n := 3) ?_); (with_reducible refine (amongR_fresh m.body [⟨#[]⟩, ⟨#[55, 66, 73, 84]⟩, ⟨#[56, 66, 73, 84, 77, 73, 77, 69]⟩] #[.string ⟨#[]⟩, .string ⟨#[55, 66, 73, 84]⟩, .string ⟨#[56, 66, 73, 84, 77, 73, 77, 69]⟩] HC5.out 3 (show List.length _ = _ from rfl) (by decide) _ q5 _ _ rfl).mono ?_); rintro e W_ ⟨rfl, hb_⟩; replace L5 := Aside.mk (show Blk _ H _ _ ∧ Below H _ _ from ⟨L5.out.1.below hb_, L5.out.2.trans (hb_.mono (by have := L5.out.2.size; omega))⟩); replace HA5 := Aside.mk (HA5.out.below hb_); clear hb_; clear x1 x2 x3 x10 x11 x12 x13; have x1 := L5.out.1.cell 1 (.bool m.hF) rfl; rw [hF] at x1; have x2 := L5.out.1.cell 2 (.bool m.hU) rfl; rw [hU] at x2; have x3 := L5.out.1.cell 3 (.bool m.hB) rfl; rw [hB] at x3; have x10 := L5.out.1.cell 10 (.string m.body) rfl; have x11 := L5.out.1.cell 11 (.string m.ret) rfl; have x12 := L5.out.1.cell 12 (.string m.envid) rfl; have x13 := L5.out.1.cell 13 (.string m.mode) rfl) | ((with_reducible refine Pf.at_args (s := m.ret) (n := 3) ?_); (with_reducible refine (amongR_fresh m.ret [⟨#[]⟩, ⟨#[70, 85, 76, 76]⟩, ⟨#[72, 68, 82, 83]⟩] #[.string ⟨#[]⟩, .string ⟨#[70, 85, 76, 76]⟩, .string ⟨#[72, 68, 82, 83]⟩] HC6.out 3 (show List.length _ = _ from rfl) (by decide) _ q6 _ _ rfl).mono ?_); rintro e W_ ⟨rfl, hb_⟩; replace L5 := Aside.mk (show Blk _ H _ _ ∧ Below H _ _ from ⟨L5.out.1.below hb_, L5.out.2.trans (hb_.mono (by have := L5.out.2.size; omega))⟩); replace HA5 := Aside.mk (HA5.out.below hb_); clear hb_; clear x1 x2 x3 x10 x11 x12 x13; have x1 := L5.out.1.cell 1 (.bool m.hF) rfl; rw [hF] at x1; have x2 := L5.out.1.cell 2 (.bool m.hU) rfl; rw [hU] at x2; have x3 := L5.out.1.cell 3 (.bool m.hB) rfl; rw [hB] at x3; have x10 := L5.out.1.cell 10 (.string m.body) rfl; have x11 := L5.out.1.cell 11 (.string m.ret) rfl; have x12 := L5.out.1.cell 12 (.string m.envid) rfl; have x13 := L5.out.1.cell 13 (.string m.mode) rfl) | ((with_reducible refine Pf.at_args (s := m.mode) (n := 5) ?_); (with_reducible refine (amongR_fresh m.mode [⟨#[]⟩, ⟨#[82]⟩, ⟨#[78]⟩, ⟨#[82, 84]⟩, ⟨#[78, 84]⟩] #[.string ⟨#[]⟩, .string ⟨#[82]⟩, .string ⟨#[78]⟩, .string ⟨#[82, 84]⟩, .string ⟨#[78, 84]⟩] HC7.out 5 (show List.length _ = _ from rfl) (by decide) _ q7 _ _ rfl).mono ?_); rintro e W_ ⟨rfl, hb_⟩; replace L5 := Aside.mk (show Blk _ H _ _ ∧ Below H _ _ from ⟨L5.out.1.below hb_, L5.out.2.trans (hb_.mono (by have := L5.out.2.size; omega))⟩); replace HA5 := Aside.mk (HA5.out.below hb_); clear hb_; clear x1 x2 x3 x10 x11 x12 x13; have x1 := L5.out.1.cell 1 (.bool m.hF) rfl; rw [hF] at x1; have x2 := L5.out.1.cell 2 (.bool m.hU) rfl; rw [hU] at x2; have x3 := L5.out.1.cell 3 (.bool m.hB) rfl; rw [hB] at x3; have x10 := L5.out.1.cell 10 (.string m.body) rfl; have x11 := L5.out.1.cell 11 (.string m.ret) rfl; have x12 := L5.out.1.cell 12 (.string m.envid) rfl; have x13 := L5.out.1.cell 13 (.string m.mode) rfl)))
                                go_ret
                                exact ⟨by rw [HR.out]; rfl, L5.out.2⟩
                              | true =>
                                have HR : Aside (m.right = if Pf.hit m 1 = true then 1 else if (100 : Int) < (m.envid.size : Int) then 3 else if (m.hF && m.hU) = true then 9 else 0) := ⟨by rw [hr1]; rfl⟩
                                clear hr1
                                go_wp2_with (first | ((with_reducible refine at_dst (N := 50) rfl ?_); refine strs_lit (by kernel_rfl) 3 _ (by rfl) [⟨#[]⟩, ⟨#[55, 66, 73, 84]⟩, ⟨#[56, 66, 73, 84, 77, 73, 77, 69]⟩] rfl (by decide) (by decide) (by rfl) #[.string ⟨#[]⟩, .string ⟨#[55, 66, 73, 84]⟩, .string ⟨#[56, 66, 73, 84, 77, 73, 77, 69]⟩] (by rfl) _ rfl ?_) | ((with_reducible refine at_dst (N := 56) rfl ?_); refine strs_lit (by kernel_rfl) 3 _ (by rfl) [⟨#[]⟩, ⟨#[70, 85, 76, 76]⟩, ⟨#[72, 68, 82, 83]⟩] rfl (by decide) (by decide) (by rfl) #[.string ⟨#[]⟩, .string ⟨#[70, 85, 76, 76]⟩, .string ⟨#[72, 68, 82, 83]⟩] (by rfl) _ rfl ?_) | ((with_reducible refine at_dst (N := 63) rfl ?_); refine strs_lit (by kernel_rfl) 5 _ (by rfl) [⟨#[]⟩, ⟨#[82]⟩, ⟨#[78]⟩, ⟨#[82, 84]⟩, ⟨#[78, 84]⟩] rfl (by decide) (by decide) (by rfl) #[.string ⟨#[]⟩, .string ⟨#[82]⟩, .string ⟨#[78]⟩, .string ⟨#[82, 84]⟩, .string ⟨#[78, 84]⟩] (by rfl) _ rfl ?_) | (go_at_call 68; first | ((with_reducible refine Pf.at_args (s := m.body) (n := 3) ?_); (with_reducible refine (amongR_fresh m.body [⟨#[]⟩, ⟨#[55, 66, 73, 84]⟩, ⟨#[56, 66, 73, 84, 77, 73, 77, 69]⟩] #[.string ⟨#[]⟩, .string ⟨#[55, 66, 73, 84]⟩, .string ⟨#[56, 66, 73, 84, 77, 73, 77, 69]⟩] HC5.out 3 (show List.length _ = _ from rfl) (by decide) _ q5 _ _ rfl).mono ?_); rintro e W_ ⟨rfl, hb_⟩; replace L5 := Aside.mk (show Blk _ H _ _ ∧ Below H _ _ from ⟨L5.out.1.below hb_, L5.out.2.trans (hb_.mono (by have := L5.out.2.size; omega))⟩); replace HA5 := Aside.mk (HA5.out.below hb_); clear hb_; clear x1 x2 x3 x10 x11 x12 x13; have x1 := L5.out.1.cell 1 (.bool m.hF) rfl; rw [hF] at x1; have x2 := L5.out.1.cell 2 (.bool m.hU) rfl; rw [hU] at x2; have x3 := L5.out.1.cell 3 (.bool m.hB) rfl; rw [hB] at x3; have x10 := L5.out.1.cell 10 (.string m.body) rfl; have x11 := L5.out.1.cell 11 (.string m.ret) rfl; have x12 := L5.out.1.cell 12 (.string m.envid) rfl; have x13 := L5.out.1.cell 13 (.string m.mode) rfl) | ((with_reducible refine Pf.at_args (s := m.ret) (n := 3) ?_); (with_reducible refine (amongR_fresh m.ret [⟨#[]⟩, ⟨#[70, 85, 76, 76]⟩, ⟨#[72, 68, 82, 83]⟩] #[.string ⟨#[]⟩, .string ⟨#[70, 85, 76, 76]⟩, .string ⟨#[72, 68, 82, 83]⟩] HC6.out 3 (show List.length _ = _ from rfl) (by decide) _ q6 _ _ rfl).mono ?_); rintro e W_ ⟨rfl, hb_⟩; replace L5 := Aside.mk (show Blk _ H _ _ ∧ Below H _ _ from ⟨L5.out.1.below hb_, L5.out.2.trans (hb_.mono (by have := L5.out.2.size; omega))⟩); replace HA5 := Aside.mk (HA5.out.below hb_); clear hb_; clear x1 x2 x3 x10 x11 x12 x13; have x1 := L5.out.1.cell 1 (.bool m.hF) rfl; rw [hF] at x1; have x2 := L5.out.1.cell 2 (.bool m.hU) rfl; rw [hU] at x2; have x3 := L5.out.1.cell 3 (.bool m.hB) rfl; rw [hB] at x3; have x10 := L5.out.1.cell 10 (.string m.body) rfl; have x11 := L5.out.1.cell 11 (.string m.ret) rfl; have x12 := L5.out.1.cell 12 (.string m.envid) rfl; have x13 := L5.out.1.cell 13 (.string m.mode) rfl) | ((with_reducible refine Pf.at_args (s := m.mode) (n := 5) ?_); (with_reducible refine (amongR_fresh m.mode [⟨#[]⟩, ⟨#[82]⟩, ⟨#[78]⟩, ⟨#[82, 84]⟩, ⟨#[78, 84]⟩] #[.string ⟨#[]⟩, .string ⟨#[82]⟩, .string ⟨#[78]⟩, .string ⟨#[82, 84]⟩, .string ⟨#[78, 84]⟩] HC7.out 5 (show List.length _ = _ from rfl) (by decide) _ q7 _ _ rfl).mono ?_); rintro e W_ ⟨rfl, hb_⟩; replace L5 := Aside.mk (show Blk _ H _ _ ∧ Below H _ _ from ⟨L5.out.1.below hb_, L5.out.2.trans (hb_.mono (by have := L5.out.2.size; omega))⟩); replace HA5 := Aside.mk (HA5.out.below hb_); clear hb_; clear x1 x2 x3 x10 x11 x12 x13; have x1 := L5.out.1.cell 1 (.bool m.hF) rfl; rw [hF] at x1; have x2 := L5.out.1.cell 2 (.bool m.hU) rfl; rw [hU] at x2; have x3 := L5.out.1.cell 3 (.bool m.hB) rfl; rw [hB] at x3; have x10 := L5.out.1.cell 10 (.string m.body) rfl; have x11 := L5.out.1.cell 11 (.string m.ret) rfl; have x12 := L5.out.1.cell 12 (.string m.envid) rfl; have x13 := L5.out.1.cell 13 (.string m.mode) rfl)))
                                clear x1 x2 x3 x10 x11 x12 x13
                                clear HC5 HC6 HC7 q5 q6 q7 hem hem2
                                have HZ := Aside.mk (hzz.out _ HA5.out)
                                go_loopw [5] (fun i wr => wr = W_ ∧ ∃ k : Nat, k ≤ 5 ∧ i = .int .i64 k ∧ ∀ j, j < k → Pf.tests m j ≠ 1) (fun i _ => 5 - (intOf i).toNat)
                                case atStart => exact ⟨rfl, 0, by omega, rfl, fun j hj => absurd hj (by omega)⟩
                                case round =>
                                  obtain ⟨rfl, k, hk, rfl, hno⟩ := hrel
                                  have HN := Aside.mk hno
                                  clear hno
                                  by_cases hlt : k < 5
                                  · have z := HZ.out k hlt
                                    by_cases h2 : Pf.tests m k = 1
                                    · rw [h2] at z
                                      have HH : Aside (m.right = 1) := ⟨by rw [HR.out, if_pos ((Pf.hit_iff m 1).2 ⟨k, hlt, h2⟩)]⟩
                                      clear h2
                                      go_wp2
                                      go_ret
                                      exact ⟨by rw [HH.out]; rfl, L5.out.2⟩
                                    · have HH := Aside.mk h2
                                      have hb2 : (Pf.tests m k == 1) = false := by simpa using h2
                                      clear h2
                                      go_wp2
                                      go_roundw
                                      case rel => exact ⟨by first | trivial | rfl, k + 1, by omega, by go_num, fun j hj => by rcases Nat.lt_or_ge j k with q | q; exact HN.out j q; exact (show j = k by omega) ▸ HH.out⟩
                                      case measure => first | (simp [intOf]; done) | (simp [intOf]; omega)
                                  · have hke : k = 5 := by omega
                                    subst hke
                                    have hn1 : Pf.hit m 1 = false := Bool.eq_false_iff.2 (fun q => by obtain ⟨j, hj, he⟩ := (Pf.hit_iff m 1).1 q; exact HN.out j hj he)
                                    have hr2 := HR.out
                                    rw [if_neg (by rw [hn1]; decide), hF, hU] at hr2
                                    clear hn1 HN HR HZ
                                    have x1 := L5.out.1.cell 1 (.bool m.hF) rfl; rw [hF] at x1
                                    have x2 := L5.out.1.cell 2 (.bool m.hU) rfl; rw [hU] at x2
                                    have x3 := L5.out.1.cell 3 (.bool m.hB) rfl; rw [hB] at x3
                                    have x10 := L5.out.1.cell 10 (.string m.body) rfl
                                    have x11 := L5.out.1.cell 11 (.string m.ret) rfl
                                    have x12 := L5.out.1.cell 12 (.string m.envid) rfl
                                    have x13 := L5.out.1.cell 13 (.string m.mode) rfl
                                    by_cases hs : (100 : Int) < (m.envid.size : Int)
                                    · rw [if_pos hs] at hr2
                                      have b1 : decide ((100 : Int) < (m.envid.size : Int)) = true := decide_eq_true hs
                                      clear hs
                                      have HR2 := Aside.mk hr2
                                      clear hr2
                                      go_wp2
                                      go_ret
                                      exact ⟨by rw [HR2.out]; rfl, L5.out.2⟩
                                    · rw [if_neg hs] at hr2
                                      have b1 : decide ((100 : Int) < (m.envid.size : Int)) = false := decide_eq_false hs
                                      clear hs
                                      cases vF <;> cases vU <;>
                                        ( have HR2 := Aside.mk hr2
                                          clear hr2
                                          go_wp2
                                          go_ret
                                          exact ⟨by rw [HR2.out]; rfl, L5.out.2⟩ )
                            | true =>
                              cases vB with
                              | false =>
                                have HR : Aside (m.right = if Pf.hit m 1 = true then 1 else if (100 : Int) < (m.envid.size : Int) then 3 else if (m.hF && m.hU) = true then 9 else 0) := ⟨by rw [hr1]; rfl⟩
                                clear hr1
                                go_wp2_with (first | ((with_reducible refine at_dst (N := 50) rfl ?_); refine strs_lit (by kernel_rfl) 3 _ (by rfl) [⟨#[]⟩, ⟨#[55, 66, 73, 84]⟩, ⟨#[56, 66, 73, 84, 77, 73, 77, 69]⟩] rfl (by decide) (by decide) (by rfl) #[.string ⟨#[]⟩, .string ⟨#[55, 66, 73, 84]⟩, .string ⟨#[56, 66, 73, 84, 77, 73, 77, 69]⟩] (by rfl) _ rfl ?_) | ((with_reducible refine at_dst (N := 56) rfl ?_); refine strs_lit (by kernel_rfl) 3 _ (by rfl) [⟨#[]⟩, ⟨#[70, 85, 76, 76]⟩, ⟨#[72, 68, 82, 83]⟩] rfl (by decide) (by decide) (by rfl) #[.string ⟨#[]⟩, .string ⟨#[70, 85, 76, 76]⟩, .string ⟨#[72, 68, 82, 83]⟩] (by rfl) _ rfl ?_) | ((with_reducible refine at_dst (N := 63) rfl ?_); refine strs_lit (by kernel_rfl) 5 _ (by rfl) [⟨#[]⟩, ⟨#[82]⟩, ⟨#[78]⟩, ⟨#[82, 84]⟩, ⟨#[78, 84]⟩] rfl (by decide) (by decide) (by rfl) #[.string ⟨#[]⟩, .string ⟨#[82]⟩, .string ⟨#[78]⟩, .string ⟨#[82, 84]⟩, .string ⟨#[78, 84]⟩] (by rfl) _ rfl ?_) | (go_at_call 68; first | ((with_reducible refine Pf.at_args (s := m.body) (n := 3) ?_); (with_reducible refine (amongR_fresh m.body [⟨#[]⟩, ⟨#[55, 66, 73, 84]⟩, ⟨#[56, 66, 73, 84, 77, 73, 77, 69]⟩] #[.string ⟨#[]⟩, .string ⟨#[55, 66, 73, 84]⟩, .string ⟨#[56, 66, 73, 84, 77, 73, 77, 69]⟩] HC5.out 3 (show List.length _ = _ from rfl) (by decide) _ q5 _ _ rfl).mono ?_); rintro e W_ ⟨rfl, hb_⟩; replace L5 := Aside.mk (show Blk _ H _ _ ∧ Below H _ _ from ⟨L5.out.1.below hb_, L5.out.2.trans (hb_.mono (by have := L5.out.2.size; omega))⟩); replace HA5 := Aside.mk (HA5.out.below hb_); clear hb_; clear x1 x2 x3 x10 x11 x12 x13; have x1 := L5.out.1.cell 1 (.bool m.hF) rfl; rw [hF] at x1; have x2 := L5.out.1.cell 2 (.bool m.hU) rfl; rw [hU] at x2; have x3 := L5.out.1.cell 3 (.bool m.hB) rfl; rw [hB] at x3; have x10 := L5.out.1.cell 10 (.string m.body) rfl; have x11 := L5.out.1.cell 11 (.string m.ret) rfl; have x12 := L5.out.1.cell 12 (.string m.envid) rfl; have x13 := L5.out.1.cell 13 (.string m.mode) rfl) | ((with_reducible refine Pf.at_args (s := m.ret) (n := 3) ?_); (with_reducible refine (amongR_fresh m.ret [⟨#[]⟩, ⟨#[70, 85, 76, 76]⟩, ⟨#[72, 68, 82, 83]⟩] #[.string ⟨#[]⟩, .string ⟨#[70, 85, 76, 76]⟩, .string ⟨#[72, 68, 82, 83]⟩] HC6.out 3 (show List.length _ = _ from rfl) (by decide) _ q6 _ _ rfl).mono ?_); rintro e W_ ⟨rfl, hb_⟩; replace L5 := Aside.mk (show Blk _ H _ _ ∧ Below H _ _ from ⟨L5.out.1.below hb_, L5.out.2.trans (hb_.mono (by have := L5.out.2.size; omega))⟩); replace HA5 := Aside.mk (HA5.out.below hb_); clear hb_; clear x1 x2 x3 x10 x11 x12 x13; have x1 := L5.out.1.cell 1 (.bool m.hF) rfl; rw [hF] at x1; have x2 := L5.out.1.cell 2 (.bool m.hU) rfl; rw [hU] at x2; have x3 := L5.out.1.cell 3 (.bool m.hB) rfl; rw [hB] at x3; have x10 := L5.out.1.cell 10 (.string m.body) rfl; have x11 := L5.out.1.cell 11 (.string m.ret) rfl; have x12 := L5.out.1.cell 12 (.string m.envid) rfl; have x13 := L5.out.1.cell 13 (.string m.mode) rfl) | ((with_reducible refine Pf.at_args (s := m.mode) (n := 5) ?_); (with_reducible refine (amongR_fresh m.mode [⟨#[]⟩, ⟨#[82]⟩, ⟨#[78]⟩, ⟨#[82, 84]⟩, ⟨#[78, 84]⟩] #[.string ⟨#[]⟩, .string ⟨#[82]⟩, .string ⟨#[78]⟩, .string ⟨#[82, 84]⟩, .string ⟨#[78, 84]⟩] HC7.out 5 (show List.length _ = _ from rfl) (by decide) _ q7 _ _ rfl).mono ?_); rintro e W_ ⟨rfl, hb_⟩; replace L5 := Aside.mk (show Blk _ H _ _ ∧ Below H _ _ from ⟨L5.out.1.below hb_, L5.out.2.trans (hb_.mono (by have := L5.out.2.size; omega))⟩); replace HA5 := Aside.mk (HA5.out.below hb_); clear hb_; clear x1 x2 x3 x10 x11 x12 x13; have x1 := L5.out.1.cell 1 (.bool m.hF) rfl; rw [hF] at x1; have x2 := L5.out.1.cell 2 (.bool m.hU) rfl; rw [hU] at x2; have x3 := L5.out.1.cell 3 (.bool m.hB) rfl; rw [hB] at x3; have x10 := L5.out.1.cell 10 (.string m.body) rfl; have x11 := L5.out.1.cell 11 (.string m.ret) rfl; have x12 := L5.out.1.cell 12 (.string m.envid) rfl; have x13 := L5.out.1.cell 13 (.string m.mode) rfl)))
                                clear x1 x2 x3 x10 x11 x12 x13
                                clear HC5 HC6 HC7 q5 q6 q7 hem hem2
                                have HZ := Aside.mk (hzz.out _ HA5.out)
                                go_loopw [5] (fun i wr => wr = W_ ∧ ∃ k : Nat, k ≤ 5 ∧ i = .int .i64 k ∧ ∀ j, j < k → Pf.tests m j ≠ 1) (fun i _ => 5 - (intOf i).toNat)
                                case atStart => exact ⟨rfl, 0, by omega, rfl, fun j hj => absurd hj (by omega)⟩
                                case round =>
                                  obtain ⟨rfl, k, hk, rfl, hno⟩ := hrel
                                  have HN := Aside.mk hno
                                  clear hno
                                  by_cases hlt : k < 5
                                  · have z := HZ.out k hlt
                                    by_cases h2 : Pf.tests m k = 1
                                    · rw [h2] at z
                                      have HH : Aside (m.right = 1) := ⟨by rw [HR.out, if_pos ((Pf.hit_iff m 1).2 ⟨k, hlt, h2⟩)]⟩
                                      clear h2
                                      go_wp2
                                      go_ret
                                      exact ⟨by rw [HH.out]; rfl, L5.out.2⟩
                                    · have HH := Aside.mk h2
                                      have hb2 : (Pf.tests m k == 1) = false := by simpa using h2
                                      clear h2
                                      go_wp2
                                      go_roundw
                                      case rel => exact ⟨by first | trivial | rfl, k + 1, by omega, by go_num, fun j hj => by rcases Nat.lt_or_ge j k with q | q; exact HN.out j q; exact (show j = k by omega) ▸ HH.out⟩
                                      case measure => first | (simp [intOf]; done) | (simp [intOf]; omega)
                                  · have hke : k = 5 := by omega
                                    subst hke
                                    have hn1 : Pf.hit m 1 = false := Bool.eq_false_iff.2 (fun q => by obtain ⟨j, hj, he⟩ := (Pf.hit_iff m 1).1 q; exact HN.out j hj he)
                                    have hr2 := HR.out
                                    rw [if_neg (by rw [hn1]; decide), hF, hU] at hr2
                                    clear hn1 HN HR HZ
                                    have x1 := L5.out.1.cell 1 (.bool m.hF) rfl; rw [hF] at x1
                                    have x2 := L5.out.1.cell 2 (.bool m.hU) rfl; rw [hU] at x2
                                    have x3 := L5.out.1.cell 3 (.bool m.hB) rfl; rw [hB] at x3
                                    have x10 := L5.out.1.cell 10 (.string m.body) rfl
                                    have x11 := L5.out.1.cell 11 (.string m.ret) rfl
                                    have x12 := L5.out.1.cell 12 (.string m.envid) rfl
                                    have x13 := L5.out.1.cell 13 (.string m.mode) rfl
                                    by_cases hs : (100 : Int) < (m.envid.size : Int)
                                    · rw [if_pos hs] at hr2
                                      have b1 : decide ((100 : Int) < (m.envid.size : Int)) = true := decide_eq_true hs
                                      clear hs
                                      have HR2 := Aside.mk hr2
                                      clear hr2
                                      go_wp2
                                      go_ret
                                      exact ⟨by rw [HR2.out]; rfl, L5.out.2⟩
                                    · rw [if_neg hs] at hr2
                                      have b1 : decide ((100 : Int) < (m.envid.size : Int)) = false := decide_eq_false hs
                                      clear hs
                                      cases vF <;> cases vU <;>
                                        ( have HR2 := Aside.mk hr2
                                          clear hr2
                                          go_wp2
                                          go_ret
                                          exact ⟨by rw [HR2.out]; rfl, L5.out.2⟩ )
                              | true =>
                                have HR : Aside (m.right = 2) := ⟨by rw [hr1]; rfl⟩
                                clear hr1
                                go_wp2_with (first | ((with_reducible refine at_dst (N := 50) rfl ?_); refine strs_lit (by kernel_rfl) 3 _ (by rfl) [⟨#[]⟩, ⟨#[55, 66, 73, 84]⟩, ⟨#[56, 66, 73, 84, 77, 73, 77, 69]⟩] rfl (by decide) (by decide) (by rfl) #[.string ⟨#[]⟩, .string ⟨#[55, 66, 73, 84]⟩, .string ⟨#[56, 66, 73, 84, 77, 73, 77, 69]⟩] (by rfl) _ rfl ?_) | ((with_reducible refine at_dst (N := 56) rfl ?_); refine strs_lit (by kernel_rfl) 3 _ (by rfl) [⟨#[]⟩, ⟨#[70, 85, 76, 76]⟩, ⟨#[72, 68, 82, 83]⟩] rfl (by decide) (by decide) (by rfl) #[.string ⟨#[]⟩, .string ⟨#[70, 85, 76, 76]⟩, .string ⟨#[72, 68, 82, 83]⟩] (by rfl) _ rfl ?_) | ((with_reducible refine at_dst (N := 63) rfl ?_); refine strs_lit (by kernel_rfl) 5 _ (by rfl) [⟨#[]⟩, ⟨#[82]⟩, ⟨#[78]⟩, ⟨#[82, 84]⟩, ⟨#[78, 84]⟩] rfl (by decide) (by decide) (by rfl) #[.string ⟨#[]⟩, .string ⟨#[82]⟩, .string ⟨#[78]⟩, .string ⟨#[82, 84]⟩, .string ⟨#[78, 84]⟩] (by rfl) _ rfl ?_) | (go_at_call 68; first | ((with_reducible refine Pf.at_args (s := m.body) (n := 3) ?_); (with_reducible refine (amongR_fresh m.body [⟨#[]⟩, ⟨#[55, 66, 73, 84]⟩, ⟨#[56, 66, 73, 84, 77, 73, 77, 69]⟩] #[.string ⟨#[]⟩, .string ⟨#[55, 66, 73, 84]⟩, .string ⟨#[56, 66, 73, 84, 77, 73, 77, 69]⟩] HC5.out 3 (show List.length _ = _ from rfl) (by decide) _ q5 _ _ rfl).mono ?_); rintro e W_ ⟨rfl, hb_⟩; replace L5 := Aside.mk (show Blk _ H _ _ ∧ Below H _ _ from ⟨L5.out.1.below hb_, L5.out.2.trans (hb_.mono (by have := L5.out.2.size; omega))⟩); replace HA5 := Aside.mk (HA5.out.below hb_); clear hb_; clear x1 x2 x3 x10 x11 x12 x13; have x1 := L5.out.1.cell 1 (.bool m.hF) rfl; rw [hF] at x1; have x2 := L5.out.1.cell 2 (.bool m.hU) rfl; rw [hU] at x2; have x3 := L5.out.1.cell 3 (.bool m.hB) rfl; rw [hB] at x3; have x10 := L5.out.1.cell 10 (.string m.body) rfl; have x11 := L5.out.1.cell 11 (.string m.ret) rfl; have x12 := L5.out.1.cell 12 (.string m.envid) rfl; have x13 := L5.out.1.cell 13 (.string m.mode) rfl) | ((with_reducible refine Pf.at_args (s := m.ret) (n := 3) ?_); (with_reducible refine (amongR_fresh m.ret [⟨#[]⟩, ⟨#[70, 85, 76, 76]⟩, ⟨#[72, 68, 82, 83]⟩] #[.string ⟨#[]⟩, .string ⟨#[70, 85, 76, 76]⟩, .string ⟨#[72, 68, 82, 83]⟩] HC6.out 3 (show List.length _ = _ from rfl) (by decide) _ q6 _ _ rfl).mono ?_); rintro e W_ ⟨rfl, hb_⟩; replace L5 := Aside.mk (show Blk _ H _ _ ∧ Below H _ _ from ⟨L5.out.1.below hb_, L5.out.2.trans (hb_.mono (by have := L5.out.2.size; omega))⟩); replace HA5 := Aside.mk (HA5.out.below hb_); clear hb_; clear x1 x2 x3 x10 x11 x12 x13; have x1 := L5.out.1.cell 1 (.bool m.hF) rfl; rw [hF] at x1; have x2 := L5.out.1.cell 2 (.bool m.hU) rfl; rw [hU] at x2; have x3 := L5.out.1.cell 3 (.bool m.hB) rfl; rw [hB] at x3; have x10 := L5.out.1.cell 10 (.string m.body) rfl; have x11 := L5.out.1.cell 11 (.string m.ret) rfl; have x12 := L5.out.1.cell 12 (.string m.envid) rfl; have x13 := L5.out.1.cell 13 (.string m.mode) rfl) | ((with_reducible refine Pf.at_args (s := m.mode) (n := 5) ?_); (with_reducible refine (amongR_fresh m.mode [⟨#[]⟩, ⟨#[82]⟩, ⟨#[78]⟩, ⟨#[82, 84]⟩, ⟨#[78, 84]⟩] #[.string ⟨#[]⟩, .string ⟨#[82]⟩, .string ⟨#[78]⟩, .string ⟨#[82, 84]⟩, .string ⟨#[78, 84]⟩] HC7.out 5 (show List.length _ = _ from rfl) (by decide) _ q7 _ _ rfl).mono ?_); rintro e W_ ⟨rfl, hb_⟩; replace L5 := Aside.mk (show Blk _ H _ _ ∧ Below H _ _ from ⟨L5.out.1.below hb_, L5.out.2.trans (hb_.mono (by have := L5.out.2.size; omega))⟩); replace HA5 := Aside.mk (HA5.out.below hb_); clear hb_; clear x1 x2 x3 x10 x11 x12 x13; have x1 := L5.out.1.cell 1 (.bool m.hF) rfl; rw [hF] at x1; have x2 := L5.out.1.cell 2 (.bool m.hU) rfl; rw [hU] at x2; have x3 := L5.out.1.cell 3 (.bool m.hB) rfl; rw [hB] at x3; have x10 := L5.out.1.cell 10 (.string m.body) rfl; have x11 := L5.out.1.cell 11 (.string m.ret) rfl; have x12 := L5.out.1.cell 12 (.string m.envid) rfl; have x13 := L5.out.1.cell 13 (.string m.mode) rfl)))
                                go_ret
                                exact ⟨by rw [HR.out]; rfl, L5.out.2⟩
              exact AllReadyH.nil
          exact AllReadyH.nil
end Go.Proofs.YtfffdbjfhdkheaaGreatDoor
