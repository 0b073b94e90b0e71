/-
  The answers that the document fixes for judge are given: the walk of 'awake'.
-/
import Derived.Test.YtojmcejkfeaccaaJdAw0
import Derived.Test.YtojmcejkfeaccaaStep
import Derived.Test.YtojmcejkfeaccaaJdSame
import Derived.Deep.DeepCutAuto
import Derived.RegionTactic
import Derived.BigRegion
import Derived.Deep.RegionHeld3
set_option linter.unusedVariables false
set_option linter.unusedSimpArgs false
namespace Go.Proofs.Ytojmcejkfeaccaa
open Go.RowKit JdLaw
set_option maxRecDepth 100000
set_option maxHeartbeats 8000000 in
theorem awake_any (w : World) : Calls Try.prog 4 #[] w fun e w' => e = .returned (.bool true) ∧ Below w.heap.size w w' := by
  have AW := Aside.mk (AwS.start w)
  go_enter Try.func4, Try.ntmps4
  go_wp2_with (first
    | ((with_reducible refine at_dst (N := 29) rfl ?_); refine step_value rfl (.agg (mcs (M0 w.heap.size))) (by kernel_rfl) ?_; simp only [Act.put, List.setIfInBounds_toArray, List.set_cons_zero, List.set_cons_succ])
    | ((with_reducible refine at_store (T := 42) (p := 1) rfl ?_); refine store_new rfl 42 _ _ _ (mcs (M0 w.heap.size)) rfl _ (by simp) rfl rfl (by kernel_rfl) rfl (by kernel_rfl) ?_; simp only [Act.put, List.setIfInBounds_toArray, List.set_cons_zero, List.set_cons_succ]))
  generalize ((w.alloc (.cells #[.string ⟨#[99]⟩, .string ⟨#[100]⟩, .string ⟨#[]⟩, .string ⟨#[]⟩, .string ⟨#[]⟩] 38)).alloc (.cells (mcs (M0 w.heap.size)) 42)).alloc (.cells #[.int .i64 0, .string ⟨#[82]⟩, .int .i64 0, .int .i64 100, .int .i64 0] 44) = W0_ at AW ⊢
  go_cut [3, 4, 5] (fun v3 v4 v5 w' => ∃ b3 : Nat, v3 = .pointer (some ⟨b3, 0, none⟩) ∧ v4 = .slice none 0 0 ∧ v5 = .int .i64 0 ∧ Aside (AwS w [(b3, #[.int .i64 0, .string ⟨#[82]⟩, .int .i64 1, .int .i64 120, .int .i64 0], 44)] w'))
  case first =>
    rename_i J_ K_ hJ_ hK_
    refine wp_region_held_drew (S := AwS w []) (by kernel_rfl) AW.out.drew (fun hS0_ => ?_)
    generalize W0_.drew = Wd_ at hS0_ ⊢
    refine' wpAnyH_take (i := 1) (oi := ⟨some 33, _, _, _, _, _⟩) (v := _) rfl (by kernel_rfl) (by kernel_rfl) (by kernel_rfl) (fun _ _ _ h => h) (yields_blk (S := AwS w []) (w.heap.size + 1) 42 _ (mcs (M0 w.heap.size)) 42 _ (by rfl) (by rfl) (by rfl) (fun _ h_ => h_.msg) Try.underlying42 rfl (by kernel_rfl)) hS0_ ?_
    try simp only [Act.put, List.setIfInBounds_toArray, List.set_cons_zero, List.set_cons_succ]
    refine' wpAnyH_take (i := 2) (oi := ⟨some 34, _, _, _, _, _⟩) (v := _) rfl (by kernel_rfl) (by kernel_rfl) (by kernel_rfl) (fun _ _ _ h => h) (yields_blk (S := AwS w []) (w.heap.size + 1 + 1) 44 _ #[.int .i64 0, .string ⟨#[82]⟩, .int .i64 0, .int .i64 100, .int .i64 0] 44 _ (by rfl) (by rfl) (by rfl) (fun _ h_ => h_.sta) Try.underlying44 rfl (by kernel_rfl)) hS0_ ?_
    try simp only [Act.put, List.setIfInBounds_toArray, List.set_cons_zero, List.set_cons_succ]
    as_aux_lemma =>
      refine wpAnyH_ready (rs := [0, 8]) (by kernel_rfl) (by simp) ?_
      refine AllReadyH.cons rfl (fun K hK => ?_) ?_
      ·
        go_simp
        go_wp2_with ((go_at_call 8; refine (usual_b _).mono ?_; rintro e w_ ⟨rfl, hb_⟩))
        refine hK.out _ _ ?_ (fun hS1_ => ?_)
        · exact (hS0_.next hb_)
        clear hK
        try (replace hB_ := Aside.mk (hB_.out.below hb_))
        clear hb_
        as_aux_lemma =>
          refine wpAnyH_ready (rs := [3, 8]) (by kernel_rfl) (by simp) ?_
          refine AllReadyH.cons rfl (fun K hK => ?_) ?_
          ·
            go_simp
            go_wp2_with ((go_at_call 7; refine (aw_A hS1_).mono ?_; rintro e w_ ⟨rfl, hb_⟩))
            refine hK.out _ _ ?_ (fun hS2_ => ?_)
            · exact (hS1_.next hb_)
            clear hK
            try (replace hB_ := Aside.mk (hB_.out.below hb_))
            clear hb_
            as_aux_lemma =>
              refine wpAnyH_take (i := 4) (oi := ⟨some 31, _, _, _, _, _⟩) (v := ?_) rfl (by kernel_rfl) (by kernel_rfl) (by kernel_rfl) (fun _ _ _ h => h) (Or.inl ⟨by rfl, ?_⟩) hS2_ ?_
              rotate_left
              · (intro w_ hSw_; first | (go_simp; done) | (go_simp; with_reducible rfl))
              try simp only [Act.put, List.setIfInBounds_toArray, List.set_cons_zero, List.set_cons_succ]
              refine wpAnyH_take (i := 5) (oi := ⟨some 36, _, _, _, _, _⟩) (v := ?_) rfl (by kernel_rfl) (by kernel_rfl) (by kernel_rfl) (fun _ _ _ h => h) (Or.inl ⟨by rfl, ?_⟩) hS2_ ?_
              rotate_left
              · (intro w_ hSw_; first | (go_simp; done) | (go_simp; with_reducible rfl))
              try simp only [Act.put, List.setIfInBounds_toArray, List.set_cons_zero, List.set_cons_succ]
              refine wpAnyH_take (i := 6) (oi := ⟨some 37, _, _, _, _, _⟩) (v := ?_) rfl (by kernel_rfl) (by kernel_rfl) (by kernel_rfl) (fun _ _ _ h => h) (Or.inl ⟨by rfl, ?_⟩) hS2_ ?_
              rotate_left
              · (intro w_ hSw_; first | (go_simp; done) | (go_simp; with_reducible rfl))
              try simp only [Act.put, List.setIfInBounds_toArray, List.set_cons_zero, List.set_cons_succ]
              refine wpAnyH_take (i := 7) (oi := ⟨some 38, _, _, _, _, _⟩) (v := ?_) rfl (by kernel_rfl) (by kernel_rfl) (by kernel_rfl) (fun _ _ _ h => h) (Or.inl ⟨by rfl, ?_⟩) hS2_ ?_
              rotate_left
              · (intro w_ hSw_; first | (go_simp; done) | (go_simp; with_reducible rfl))
              try simp only [Act.put, List.setIfInBounds_toArray, List.set_cons_zero, List.set_cons_succ]
              refine wpAnyH_ready (rs := [8]) (by kernel_rfl) (by simp) ?_
              refine AllReadyH.cons rfl (fun K hK => ?_) ?_
              ·
                have hN_ := Aside.mk hS2_.fresh
                have hB_ := Aside.mk hS2_.newb
                go_simp
                refine hK.out _ _ ?_ (fun hS3_ => ?_)
                · exact (hS2_.alloc _)
                clear hK
                as_aux_lemma =>
                  refine wpAnyH_ready (rs := [9]) (by kernel_rfl) (by simp) ?_
                  refine AllReadyH.cons rfl (fun K hK => ?_) ?_
                  ·
                    have z0 := hB_.out.cell 0 _ rfl; have y0 := hB_.out.free 0; have z1 := hB_.out.cell 1 _ rfl; have y1 := hB_.out.free 1; have z2 := hB_.out.cell 2 _ rfl; have y2 := hB_.out.free 2; have z3 := hB_.out.cell 3 _ rfl; have y3 := hB_.out.free 3; have z4 := hB_.out.cell 4 _ rfl; have y4 := hB_.out.free 4
                    go_simp
                    clear z0 y0 z1 y1 z2 y2 z3 y3 z4 y4
                    refine hK.out _ _ ?_ (fun hS4_ => ?_)
                    · exact (by first | with_reducible exact hS3_.set5 hN_.out _ _ _ _ _ | with_reducible exact AwS.alloc (by assumption) _)
                    clear hK
                    as_aux_lemma =>
                      refine wpAnyH_take (i := 10) (oi := ⟨some 4, _, _, _, _, _⟩) (v := ?_) rfl (by kernel_rfl) (by kernel_rfl) (by kernel_rfl) (fun _ _ _ h => h) (Or.inl ⟨by rfl, ?_⟩) hS4_ ?_
                      rotate_left
                      · (intro w_ hSw_; first | (go_simp; done) | (go_simp; with_reducible rfl))
                      try simp only [Act.put, List.setIfInBounds_toArray, List.set_cons_zero, List.set_cons_succ]
                      refine wpAnyH_take (i := 11) (oi := ⟨some 5, _, _, _, _, _⟩) (v := ?_) rfl (by kernel_rfl) (by kernel_rfl) (by kernel_rfl) (fun _ _ _ h => h) (Or.inl ⟨by rfl, ?_⟩) hS4_ ?_
                      rotate_left
                      · (intro w_ hSw_; first | (go_simp; done) | (go_simp; with_reducible rfl))
                      try simp only [Act.put, List.setIfInBounds_toArray, List.set_cons_zero, List.set_cons_succ]
                      refine wpAnyH_done (by kernel_rfl) ?_ _
                      refine hK_ _ _ (Met.intro (hJ_ _ _ ?_))
                      (repeat apply Exists.intro)
                      refine ⟨?_, rfl⟩
                      exact ⟨_, rfl, rfl, rfl, ⟨hS4_.add hN_.out.2 (by first | with_reducible exact Blk.new _ _ | with_reducible exact set5_blk hB_.out _ _ _ _ _)⟩⟩
                  exact AllReadyH.nil
              exact AllReadyH.nil
          refine AllReadyH.cons rfl (fun K hK => ?_) ?_
          ·
            have hN_ := Aside.mk hS1_.fresh
            have hB_ := Aside.mk hS1_.newb
            go_simp
            refine hK.out _ _ ?_ (fun hS2_ => ?_)
            · exact (hS1_.alloc _)
            clear hK
            as_aux_lemma =>
              refine wpAnyH_ready (rs := [3]) (by kernel_rfl) (by simp) ?_
              refine AllReadyH.cons rfl (fun K hK => ?_) ?_
              ·
                go_simp
                go_wp2_with ((go_at_call 7; refine (aw_A hS2_).mono ?_; rintro e w_ ⟨rfl, hb_⟩))
                refine hK.out _ _ ?_ (fun hS3_ => ?_)
                · exact (hS2_.next hb_)
                clear hK
                try (replace hB_ := Aside.mk (hB_.out.below hb_))
                clear hb_
                as_aux_lemma =>
                  refine wpAnyH_take (i := 4) (oi := ⟨some 31, _, _, _, _, _⟩) (v := ?_) rfl (by kernel_rfl) (by kernel_rfl) (by kernel_rfl) (fun _ _ _ h => h) (Or.inl ⟨by rfl, ?_⟩) hS3_ ?_
                  rotate_left
                  · (intro w_ hSw_; first | (go_simp; done) | (go_simp; with_reducible rfl))
                  try simp only [Act.put, List.setIfInBounds_toArray, List.set_cons_zero, List.set_cons_succ]
                  refine wpAnyH_take (i := 5) (oi := ⟨some 36, _, _, _, _, _⟩) (v := ?_) rfl (by kernel_rfl) (by kernel_rfl) (by kernel_rfl) (fun _ _ _ h => h) (Or.inl ⟨by rfl, ?_⟩) hS3_ ?_
                  rotate_left
                  · (intro w_ hSw_; first | (go_simp; done) | (go_simp; with_reducible rfl))
                  try simp only [Act.put, List.setIfInBounds_toArray, List.set_cons_zero, List.set_cons_succ]
                  as_aux_lemma =>
                    refine wpAnyH_take (i := 6) (oi := ⟨some 37, _, _, _, _, _⟩) (v := ?_) rfl (by kernel_rfl) (by kernel_rfl) (by kernel_rfl) (fun _ _ _ h => h) (Or.inl ⟨by rfl, ?_⟩) hS3_ ?_
                    rotate_left
                    · (intro w_ hSw_; first | (go_simp; done) | (go_simp; with_reducible rfl))
                    try simp only [Act.put, List.setIfInBounds_toArray, List.set_cons_zero, List.set_cons_succ]
                    refine wpAnyH_take (i := 7) (oi := ⟨some 38, _, _, _, _, _⟩) (v := ?_) rfl (by kernel_rfl) (by kernel_rfl) (by kernel_rfl) (fun _ _ _ h => h) (Or.inl ⟨by rfl, ?_⟩) hS3_ ?_
                    rotate_left
                    · (intro w_ hSw_; first | (go_simp; done) | (go_simp; with_reducible rfl))
                    try simp only [Act.put, List.setIfInBounds_toArray, List.set_cons_zero, List.set_cons_succ]
                    refine wpAnyH_ready (rs := [9]) (by kernel_rfl) (by simp) ?_
                    refine AllReadyH.cons rfl (fun K hK => ?_) ?_
                    ·
                      have z0 := hB_.out.cell 0 _ rfl; have y0 := hB_.out.free 0; have z1 := hB_.out.cell 1 _ rfl; have y1 := hB_.out.free 1; have z2 := hB_.out.cell 2 _ rfl; have y2 := hB_.out.free 2; have z3 := hB_.out.cell 3 _ rfl; have y3 := hB_.out.free 3; have z4 := hB_.out.cell 4 _ rfl; have y4 := hB_.out.free 4
                      go_simp
                      clear z0 y0 z1 y1 z2 y2 z3 y3 z4 y4
                      refine hK.out _ _ ?_ (fun hS4_ => ?_)
                      · exact (by first | with_reducible exact hS3_.set5 hN_.out _ _ _ _ _ | with_reducible exact AwS.alloc (by assumption) _)
                      clear hK
                      as_aux_lemma =>
                        refine wpAnyH_take (i := 10) (oi := ⟨some 4, _, _, _, _, _⟩) (v := ?_) rfl (by kernel_rfl) (by kernel_rfl) (by kernel_rfl) (fun _ _ _ h => h) (Or.inl ⟨by rfl, ?_⟩) hS4_ ?_
                        rotate_left
                        · (intro w_ hSw_; first | (go_simp; done) | (go_simp; with_reducible rfl))
                        try simp only [Act.put, List.setIfInBounds_toArray, List.set_cons_zero, List.set_cons_succ]
                        refine wpAnyH_take (i := 11) (oi := ⟨some 5, _, _, _, _, _⟩) (v := ?_) rfl (by kernel_rfl) (by kernel_rfl) (by kernel_rfl) (fun _ _ _ h => h) (Or.inl ⟨by rfl, ?_⟩) hS4_ ?_
                        rotate_left
                        · (intro w_ hSw_; first | (go_simp; done) | (go_simp; with_reducible rfl))
                        try simp only [Act.put, List.setIfInBounds_toArray, List.set_cons_zero, List.set_cons_succ]
                        refine wpAnyH_done (by kernel_rfl) ?_ _
                        refine hK_ _ _ (Met.intro (hJ_ _ _ ?_))
                        (repeat apply Exists.intro)
                        refine ⟨?_, rfl⟩
                        exact ⟨_, rfl, rfl, rfl, ⟨hS4_.add hN_.out.2 (by first | with_reducible exact Blk.new _ _ | with_reducible exact set5_blk hB_.out _ _ _ _ _)⟩⟩
                    exact AllReadyH.nil
              exact AllReadyH.nil
          exact AllReadyH.nil
      refine AllReadyH.cons rfl (fun K hK => ?_) ?_
      ·
        have hN_ := Aside.mk hS0_.fresh
        have hB_ := Aside.mk hS0_.newb
        go_simp
        refine hK.out _ _ ?_ (fun hS1_ => ?_)
        · exact (hS0_.alloc _)
        clear hK
        as_aux_lemma =>
          refine wpAnyH_ready (rs := [0]) (by kernel_rfl) (by simp) ?_
          refine AllReadyH.cons rfl (fun K hK => ?_) ?_
          ·
            go_simp
            go_wp2_with ((go_at_call 8; refine (usual_b _).mono ?_; rintro e w_ ⟨rfl, hb_⟩))
            refine hK.out _ _ ?_ (fun hS2_ => ?_)
            · exact (hS1_.next hb_)
            clear hK
            try (replace hB_ := Aside.mk (hB_.out.below hb_))
            clear hb_
            as_aux_lemma =>
              refine wpAnyH_ready (rs := [3]) (by kernel_rfl) (by simp) ?_
              refine AllReadyH.cons rfl (fun K hK => ?_) ?_
              ·
                go_simp
                go_wp2_with ((go_at_call 7; refine (aw_A hS2_).mono ?_; rintro e w_ ⟨rfl, hb_⟩))
                refine hK.out _ _ ?_ (fun hS3_ => ?_)
                · exact (hS2_.next hb_)
                clear hK
                try (replace hB_ := Aside.mk (hB_.out.below hb_))
                clear hb_
                as_aux_lemma =>
                  refine wpAnyH_take (i := 4) (oi := ⟨some 31, _, _, _, _, _⟩) (v := ?_) rfl (by kernel_rfl) (by kernel_rfl) (by kernel_rfl) (fun _ _ _ h => h) (Or.inl ⟨by rfl, ?_⟩) hS3_ ?_
                  rotate_left
                  · (intro w_ hSw_; first | (go_simp; done) | (go_simp; with_reducible rfl))
                  try simp only [Act.put, List.setIfInBounds_toArray, List.set_cons_zero, List.set_cons_succ]
                  refine wpAnyH_take (i := 5) (oi := ⟨some 36, _, _, _, _, _⟩) (v := ?_) rfl (by kernel_rfl) (by kernel_rfl) (by kernel_rfl) (fun _ _ _ h => h) (Or.inl ⟨by rfl, ?_⟩) hS3_ ?_
                  rotate_left
                  · (intro w_ hSw_; first | (go_simp; done) | (go_simp; with_reducible rfl))
                  try simp only [Act.put, List.setIfInBounds_toArray, List.set_cons_zero, List.set_cons_succ]
                  refine wpAnyH_take (i := 6) (oi := ⟨some 37, _, _, _, _, _⟩) (v := ?_) rfl (by kernel_rfl) (by kernel_rfl) (by kernel_rfl) (fun _ _ _ h => h) (Or.inl ⟨by rfl, ?_⟩) hS3_ ?_
                  rotate_left
                  · (intro w_ hSw_; first | (go_simp; done) | (go_simp; with_reducible rfl))
                  try simp only [Act.put, List.setIfInBounds_toArray, List.set_cons_zero, List.set_cons_succ]
                  refine wpAnyH_take (i := 7) (oi := ⟨some 38, _, _, _, _, _⟩) (v := ?_) rfl (by kernel_rfl) (by kernel_rfl) (by kernel_rfl) (fun _ _ _ h => h) (Or.inl ⟨by rfl, ?_⟩) hS3_ ?_
                  rotate_left
                  · (intro w_ hSw_; first | (go_simp; done) | (go_simp; with_reducible rfl))
                  try simp only [Act.put, List.setIfInBounds_toArray, List.set_cons_zero, List.set_cons_succ]
                  as_aux_lemma =>
                    refine wpAnyH_ready (rs := [9]) (by kernel_rfl) (by simp) ?_
                    refine AllReadyH.cons rfl (fun K hK => ?_) ?_
                    ·
                      have z0 := hB_.out.cell 0 _ rfl; have y0 := hB_.out.free 0; have z1 := hB_.out.cell 1 _ rfl; have y1 := hB_.out.free 1; have z2 := hB_.out.cell 2 _ rfl; have y2 := hB_.out.free 2; have z3 := hB_.out.cell 3 _ rfl; have y3 := hB_.out.free 3; have z4 := hB_.out.cell 4 _ rfl; have y4 := hB_.out.free 4
                      go_simp
                      clear z0 y0 z1 y1 z2 y2 z3 y3 z4 y4
                      refine hK.out _ _ ?_ (fun hS4_ => ?_)
                      · exact (by first | with_reducible exact hS3_.set5 hN_.out _ _ _ _ _ | with_reducible exact AwS.alloc (by assumption) _)
                      clear hK
                      as_aux_lemma =>
                        refine wpAnyH_take (i := 10) (oi := ⟨some 4, _, _, _, _, _⟩) (v := ?_) rfl (by kernel_rfl) (by kernel_rfl) (by kernel_rfl) (fun _ _ _ h => h) (Or.inl ⟨by rfl, ?_⟩) hS4_ ?_
                        rotate_left
                        · (intro w_ hSw_; first | (go_simp; done) | (go_simp; with_reducible rfl))
                        try simp only [Act.put, List.setIfInBounds_toArray, List.set_cons_zero, List.set_cons_succ]
                        refine wpAnyH_take (i := 11) (oi := ⟨some 5, _, _, _, _, _⟩) (v := ?_) rfl (by kernel_rfl) (by kernel_rfl) (by kernel_rfl) (fun _ _ _ h => h) (Or.inl ⟨by rfl, ?_⟩) hS4_ ?_
                        rotate_left
                        · (intro w_ hSw_; first | (go_simp; done) | (go_simp; with_reducible rfl))
                        try simp only [Act.put, List.setIfInBounds_toArray, List.set_cons_zero, List.set_cons_succ]
                        refine wpAnyH_done (by kernel_rfl) ?_ _
                        refine hK_ _ _ (Met.intro (hJ_ _ _ ?_))
                        (repeat apply Exists.intro)
                        refine ⟨?_, rfl⟩
                        exact ⟨_, rfl, rfl, rfl, ⟨hS4_.add hN_.out.2 (by first | with_reducible exact Blk.new _ _ | with_reducible exact set5_blk hB_.out _ _ _ _ _)⟩⟩
                    exact AllReadyH.nil
              exact AllReadyH.nil
          exact AllReadyH.nil
      exact AllReadyH.nil
  case rest =>
  clear AW
  obtain ⟨b3, rfl, rfl, rfl, AW⟩ := hcut
  go_wp2
  go_cut [6, 7, 8] (fun v6 v7 v8 w' => ∃ b6 q : Nat, v6 = .pointer (some ⟨b6, 0, none⟩) ∧ v7 = .slice (some ⟨q, 0, none⟩) 1 1 ∧ v8 = .int .i64 0 ∧ Aside (AwS w [(b6, #[.int .i64 0, .string ⟨#[70]⟩, .int .i64 1, .int .i64 120, .int .i64 2], 44), (q, #[.string ⟨#[102, 97, 105, 108, 101, 100]⟩], 9), (b3, #[.int .i64 0, .string ⟨#[82]⟩, .int .i64 1, .int .i64 120, .int .i64 0], 44)] w'))
  case first =>
    rename_i J_ K_ hJ_ hK_
    refine wp_region_held_drew (S := AwS w [(b3, #[.int .i64 0, .string ⟨#[82]⟩, .int .i64 1, .int .i64 120, .int .i64 0], 44)]) (by kernel_rfl) AW.out.drew (fun hS0_ => ?_)
    generalize wc.drew = Wd_ at hS0_ ⊢
    refine' wpAnyH_take (i := 1) (oi := ⟨some 41, _, _, _, _, _⟩) (v := _) rfl (by kernel_rfl) (by kernel_rfl) (by kernel_rfl) (fun _ _ _ h => h) (yields_blk (S := AwS w [(b3, #[.int .i64 0, .string ⟨#[82]⟩, .int .i64 1, .int .i64 120, .int .i64 0], 44)]) (w.heap.size + 1) 42 _ (mcs (M0 w.heap.size)) 42 _ (by rfl) (by rfl) (by rfl) (fun _ h_ => h_.msg) Try.underlying42 rfl (by kernel_rfl)) hS0_ ?_
    try simp only [Act.put, List.setIfInBounds_toArray, List.set_cons_zero, List.set_cons_succ]
    refine' wpAnyH_take (i := 2) (oi := ⟨some 42, _, _, _, _, _⟩) (v := _) rfl (by kernel_rfl) (by kernel_rfl) (by kernel_rfl) (fun _ _ _ h => h) (yields_blk (S := AwS w [(b3, #[.int .i64 0, .string ⟨#[82]⟩, .int .i64 1, .int .i64 120, .int .i64 0], 44)]) (b3) 44 _ #[.int .i64 0, .string ⟨#[82]⟩, .int .i64 1, .int .i64 120, .int .i64 0] 44 _ (by rfl) (by rfl) (by rfl) (fun _ h_ => (h_.own (b3, #[.int .i64 0, .string ⟨#[82]⟩, .int .i64 1, .int .i64 120, .int .i64 0], 44) (by simp)).2) Try.underlying44 rfl (by kernel_rfl)) hS0_ ?_
    try simp only [Act.put, List.setIfInBounds_toArray, List.set_cons_zero, List.set_cons_succ]
    refine wpAnyH_ready (rs := [0, 8]) (by kernel_rfl) (by simp) ?_
    refine AllReadyH.cons rfl (fun K hK => ?_) ?_
    ·
      try (have hBl_ := Aside.mk hB_.out.lt)
      go_simp
      go_wp2_with ((go_at_call 8; refine (usual_b _).mono ?_; rintro e w_ ⟨rfl, hb_⟩))
      refine hK.out _ _ ?_ (fun hS1_ => ?_)
      · exact (hS0_.next hb_)
      clear hK
      try (replace hB_ := Aside.mk (hB_.out.below hb_))
      try (replace hR_ := Aside.mk (hR_.out.below hb_))
      try (have hQ_ := Aside.mk (Nat.lt_of_lt_of_le hS0_.fresh.2 hq_); have hR_ := Aside.mk hk_)
      try (have hne_ := Aside.mk (Nat.ne_of_gt (Nat.lt_of_lt_of_le hBl_.out hq_)))
      try clear hk_
      try clear hq_
      clear hb_
      as_aux_lemma =>
        refine wpAnyH_ready (rs := [3, 8]) (by kernel_rfl) (by simp) ?_
        refine AllReadyH.cons rfl (fun K hK => ?_) ?_
        ·
          try (have hBl_ := Aside.mk hB_.out.lt)
          go_simp
          go_wp2_with ((go_at_call 9; refine (aw_B hS1_).mono ?_; rintro e w_ ⟨q, rfl, hq_, hk_, hb_⟩))
          refine hK.out _ _ ?_ (fun hS2_ => ?_)
          · exact (hS1_.next hb_)
          clear hK
          try (replace hB_ := Aside.mk (hB_.out.below hb_))
          try (replace hR_ := Aside.mk (hR_.out.below hb_))
          try (have hQ_ := Aside.mk (Nat.lt_of_lt_of_le hS1_.fresh.2 hq_); have hR_ := Aside.mk hk_)
          try (have hne_ := Aside.mk (Nat.ne_of_gt (Nat.lt_of_lt_of_le hBl_.out hq_)))
          try clear hk_
          try clear hq_
          clear hb_
          as_aux_lemma =>
            refine wpAnyH_take (i := 4) (oi := ⟨some 39, _, _, _, _, _⟩) (v := ?_) rfl (by kernel_rfl) (by kernel_rfl) (by kernel_rfl) (fun _ _ _ h => h) (Or.inl ⟨by rfl, ?_⟩) hS2_ ?_
            rotate_left
            · (intro w_ hSw_; first | (go_simp; done) | (go_simp; with_reducible rfl))
            try simp only [Act.put, List.setIfInBounds_toArray, List.set_cons_zero, List.set_cons_succ]
            refine wpAnyH_take (i := 5) (oi := ⟨some 44, _, _, _, _, _⟩) (v := ?_) rfl (by kernel_rfl) (by kernel_rfl) (by kernel_rfl) (fun _ _ _ h => h) (Or.inl ⟨by rfl, ?_⟩) hS2_ ?_
            rotate_left
            · (intro w_ hSw_; first | (go_simp; done) | (go_simp; with_reducible rfl))
            try simp only [Act.put, List.setIfInBounds_toArray, List.set_cons_zero, List.set_cons_succ]
            refine wpAnyH_take (i := 6) (oi := ⟨some 45, _, _, _, _, _⟩) (v := ?_) rfl (by kernel_rfl) (by kernel_rfl) (by kernel_rfl) (fun _ _ _ h => h) (Or.inl ⟨by rfl, ?_⟩) hS2_ ?_
            rotate_left
            · (intro w_ hSw_; first | (go_simp; done) | (go_simp; with_reducible rfl))
            try simp only [Act.put, List.setIfInBounds_toArray, List.set_cons_zero, List.set_cons_succ]
            refine wpAnyH_take (i := 7) (oi := ⟨some 46, _, _, _, _, _⟩) (v := ?_) rfl (by kernel_rfl) (by kernel_rfl) (by kernel_rfl) (fun _ _ _ h => h) (Or.inl ⟨by rfl, ?_⟩) hS2_ ?_
            rotate_left
            · (intro w_ hSw_; first | (go_simp; done) | (go_simp; with_reducible rfl))
            try simp only [Act.put, List.setIfInBounds_toArray, List.set_cons_zero, List.set_cons_succ]
            as_aux_lemma =>
              refine wpAnyH_ready (rs := [8]) (by kernel_rfl) (by simp) ?_
              refine AllReadyH.cons rfl (fun K hK => ?_) ?_
              ·
                have hN_ := Aside.mk hS2_.fresh
                have hB_ := Aside.mk hS2_.newb
                go_simp
                refine hK.out _ _ ?_ (fun hS3_ => ?_)
                · exact (hS2_.alloc _)
                clear hK
                as_aux_lemma =>
                  refine wpAnyH_ready (rs := [9]) (by kernel_rfl) (by simp) ?_
                  refine AllReadyH.cons rfl (fun K hK => ?_) ?_
                  ·
                    have z0 := hB_.out.cell 0 _ rfl; have y0 := hB_.out.free 0; have z1 := hB_.out.cell 1 _ rfl; have y1 := hB_.out.free 1; have z2 := hB_.out.cell 2 _ rfl; have y2 := hB_.out.free 2; have z3 := hB_.out.cell 3 _ rfl; have y3 := hB_.out.free 3; have z4 := hB_.out.cell 4 _ rfl; have y4 := hB_.out.free 4
                    go_simp
                    clear z0 y0 z1 y1 z2 y2 z3 y3 z4 y4
                    refine hK.out _ _ ?_ (fun hS4_ => ?_)
                    · exact (by first | with_reducible exact hS3_.set5 hN_.out _ _ _ _ _ | with_reducible exact AwS.alloc (by assumption) _)
                    clear hK
                    as_aux_lemma =>
                      refine wpAnyH_take (i := 10) (oi := ⟨some 7, _, _, _, _, _⟩) (v := ?_) rfl (by kernel_rfl) (by kernel_rfl) (by kernel_rfl) (fun _ _ _ h => h) (Or.inl ⟨by rfl, ?_⟩) hS4_ ?_
                      rotate_left
                      · (intro w_ hSw_; first | (go_simp; done) | (go_simp; with_reducible rfl))
                      try simp only [Act.put, List.setIfInBounds_toArray, List.set_cons_zero, List.set_cons_succ]
                      refine wpAnyH_take (i := 11) (oi := ⟨some 8, _, _, _, _, _⟩) (v := ?_) rfl (by kernel_rfl) (by kernel_rfl) (by kernel_rfl) (fun _ _ _ h => h) (Or.inl ⟨by rfl, ?_⟩) hS4_ ?_
                      rotate_left
                      · (intro w_ hSw_; first | (go_simp; done) | (go_simp; with_reducible rfl))
                      try simp only [Act.put, List.setIfInBounds_toArray, List.set_cons_zero, List.set_cons_succ]
                      refine wpAnyH_done (by kernel_rfl) ?_ _
                      refine hK_ _ _ (Met.intro (hJ_ _ _ ?_))
                      (repeat apply Exists.intro)
                      refine ⟨?_, rfl⟩
                      exact ⟨_, _, rfl, rfl, rfl, ⟨(hS4_.add hQ_.out (by first | with_reducible exact hR_.out.old _ | with_reducible exact set5_other hR_.out hne_.out _ _ _ _ _)).add hN_.out.2 (by first | with_reducible exact Blk.new _ _ | with_reducible exact set5_blk hB_.out _ _ _ _ _)⟩⟩
                  exact AllReadyH.nil
              exact AllReadyH.nil
        refine AllReadyH.cons rfl (fun K hK => ?_) ?_
        ·
          have hN_ := Aside.mk hS1_.fresh
          have hB_ := Aside.mk hS1_.newb
          go_simp
          refine hK.out _ _ ?_ (fun hS2_ => ?_)
          · exact (hS1_.alloc _)
          clear hK
          as_aux_lemma =>
            refine wpAnyH_ready (rs := [3]) (by kernel_rfl) (by simp) ?_
            refine AllReadyH.cons rfl (fun K hK => ?_) ?_
            ·
              try (have hBl_ := Aside.mk hB_.out.lt)
              go_simp
              go_wp2_with ((go_at_call 9; refine (aw_B hS2_).mono ?_; rintro e w_ ⟨q, rfl, hq_, hk_, hb_⟩))
              refine hK.out _ _ ?_ (fun hS3_ => ?_)
              · exact (hS2_.next hb_)
              clear hK
              try (replace hB_ := Aside.mk (hB_.out.below hb_))
              try (replace hR_ := Aside.mk (hR_.out.below hb_))
              try (have hQ_ := Aside.mk (Nat.lt_of_lt_of_le hS2_.fresh.2 hq_); have hR_ := Aside.mk hk_)
              try (have hne_ := Aside.mk (Nat.ne_of_gt (Nat.lt_of_lt_of_le hBl_.out hq_)))
              try clear hk_
              try clear hq_
              clear hb_
              as_aux_lemma =>
                refine wpAnyH_take (i := 4) (oi := ⟨some 39, _, _, _, _, _⟩) (v := ?_) rfl (by kernel_rfl) (by kernel_rfl) (by kernel_rfl) (fun _ _ _ h => h) (Or.inl ⟨by rfl, ?_⟩) hS3_ ?_
                rotate_left
                · (intro w_ hSw_; first | (go_simp; done) | (go_simp; with_reducible rfl))
                try simp only [Act.put, List.setIfInBounds_toArray, List.set_cons_zero, List.set_cons_succ]
                refine wpAnyH_take (i := 5) (oi := ⟨some 44, _, _, _, _, _⟩) (v := ?_) rfl (by kernel_rfl) (by kernel_rfl) (by kernel_rfl) (fun _ _ _ h => h) (Or.inl ⟨by rfl, ?_⟩) hS3_ ?_
                rotate_left
                · (intro w_ hSw_; first | (go_simp; done) | (go_simp; with_reducible rfl))
                try simp only [Act.put, List.setIfInBounds_toArray, List.set_cons_zero, List.set_cons_succ]
                refine wpAnyH_take (i := 6) (oi := ⟨some 45, _, _, _, _, _⟩) (v := ?_) rfl (by kernel_rfl) (by kernel_rfl) (by kernel_rfl) (fun _ _ _ h => h) (Or.inl ⟨by rfl, ?_⟩) hS3_ ?_
                rotate_left
                · (intro w_ hSw_; first | (go_simp; done) | (go_simp; with_reducible rfl))
                try simp only [Act.put, List.setIfInBounds_toArray, List.set_cons_zero, List.set_cons_succ]
                refine wpAnyH_take (i := 7) (oi := ⟨some 46, _, _, _, _, _⟩) (v := ?_) rfl (by kernel_rfl) (by kernel_rfl) (by kernel_rfl) (fun _ _ _ h => h) (Or.inl ⟨by rfl, ?_⟩) hS3_ ?_
                rotate_left
                · (intro w_ hSw_; first | (go_simp; done) | (go_simp; with_reducible rfl))
                try simp only [Act.put, List.setIfInBounds_toArray, List.set_cons_zero, List.set_cons_succ]
                refine wpAnyH_ready (rs := [9]) (by kernel_rfl) (by simp) ?_
                refine AllReadyH.cons rfl (fun K hK => ?_) ?_
                ·
                  have z0 := hB_.out.cell 0 _ rfl; have y0 := hB_.out.free 0; have z1 := hB_.out.cell 1 _ rfl; have y1 := hB_.out.free 1; have z2 := hB_.out.cell 2 _ rfl; have y2 := hB_.out.free 2; have z3 := hB_.out.cell 3 _ rfl; have y3 := hB_.out.free 3; have z4 := hB_.out.cell 4 _ rfl; have y4 := hB_.out.free 4
                  go_simp
                  clear z0 y0 z1 y1 z2 y2 z3 y3 z4 y4
                  refine hK.out _ _ ?_ (fun hS4_ => ?_)
                  · exact (by first | with_reducible exact hS3_.set5 hN_.out _ _ _ _ _ | with_reducible exact AwS.alloc (by assumption) _)
                  clear hK
                  as_aux_lemma =>
                    refine wpAnyH_take (i := 10) (oi := ⟨some 7, _, _, _, _, _⟩) (v := ?_) rfl (by kernel_rfl) (by kernel_rfl) (by kernel_rfl) (fun _ _ _ h => h) (Or.inl ⟨by rfl, ?_⟩) hS4_ ?_
                    rotate_left
                    · (intro w_ hSw_; first | (go_simp; done) | (go_simp; with_reducible rfl))
                    try simp only [Act.put, List.setIfInBounds_toArray, List.set_cons_zero, List.set_cons_succ]
                    refine wpAnyH_take (i := 11) (oi := ⟨some 8, _, _, _, _, _⟩) (v := ?_) rfl (by kernel_rfl) (by kernel_rfl) (by kernel_rfl) (fun _ _ _ h => h) (Or.inl ⟨by rfl, ?_⟩) hS4_ ?_
                    rotate_left
                    · (intro w_ hSw_; first | (go_simp; done) | (go_simp; with_reducible rfl))
                    try simp only [Act.put, List.setIfInBounds_toArray, List.set_cons_zero, List.set_cons_succ]
                    as_aux_lemma =>
                      refine wpAnyH_done (by kernel_rfl) ?_ _
                      refine hK_ _ _ (Met.intro (hJ_ _ _ ?_))
                      (repeat apply Exists.intro)
                      refine ⟨?_, rfl⟩
                      exact ⟨_, _, rfl, rfl, rfl, ⟨(hS4_.add hQ_.out (by first | with_reducible exact hR_.out.old _ | with_reducible exact set5_other hR_.out hne_.out _ _ _ _ _)).add hN_.out.2 (by first | with_reducible exact Blk.new _ _ | with_reducible exact set5_blk hB_.out _ _ _ _ _)⟩⟩
                exact AllReadyH.nil
            exact AllReadyH.nil
        exact AllReadyH.nil
    refine AllReadyH.cons rfl (fun K hK => ?_) ?_
    ·
      have hN_ := Aside.mk hS0_.fresh
      have hB_ := Aside.mk hS0_.newb
      go_simp
      refine hK.out _ _ ?_ (fun hS1_ => ?_)
      · exact (hS0_.alloc _)
      clear hK
      as_aux_lemma =>
        refine wpAnyH_ready (rs := [0]) (by kernel_rfl) (by simp) ?_
        refine AllReadyH.cons rfl (fun K hK => ?_) ?_
        ·
          try (have hBl_ := Aside.mk hB_.out.lt)
          go_simp
          go_wp2_with ((go_at_call 8; refine (usual_b _).mono ?_; rintro e w_ ⟨rfl, hb_⟩))
          refine hK.out _ _ ?_ (fun hS2_ => ?_)
          · exact (hS1_.next hb_)
          clear hK
          try (replace hB_ := Aside.mk (hB_.out.below hb_))
          try (replace hR_ := Aside.mk (hR_.out.below hb_))
          try (have hQ_ := Aside.mk (Nat.lt_of_lt_of_le hS1_.fresh.2 hq_); have hR_ := Aside.mk hk_)
          try (have hne_ := Aside.mk (Nat.ne_of_gt (Nat.lt_of_lt_of_le hBl_.out hq_)))
          try clear hk_
          try clear hq_
          clear hb_
          as_aux_lemma =>
            refine wpAnyH_ready (rs := [3]) (by kernel_rfl) (by simp) ?_
            refine AllReadyH.cons rfl (fun K hK => ?_) ?_
            ·
              try (have hBl_ := Aside.mk hB_.out.lt)
              go_simp
              go_wp2_with ((go_at_call 9; refine (aw_B hS2_).mono ?_; rintro e w_ ⟨q, rfl, hq_, hk_, hb_⟩))
              refine hK.out _ _ ?_ (fun hS3_ => ?_)
              · exact (hS2_.next hb_)
              clear hK
              try (replace hB_ := Aside.mk (hB_.out.below hb_))
              try (replace hR_ := Aside.mk (hR_.out.below hb_))
              try (have hQ_ := Aside.mk (Nat.lt_of_lt_of_le hS2_.fresh.2 hq_); have hR_ := Aside.mk hk_)
              try (have hne_ := Aside.mk (Nat.ne_of_gt (Nat.lt_of_lt_of_le hBl_.out hq_)))
              try clear hk_
              try clear hq_
              clear hb_
              as_aux_lemma =>
                refine wpAnyH_take (i := 4) (oi := ⟨some 39, _, _, _, _, _⟩) (v := ?_) rfl (by kernel_rfl) (by kernel_rfl) (by kernel_rfl) (fun _ _ _ h => h) (Or.inl ⟨by rfl, ?_⟩) hS3_ ?_
                rotate_left
                · (intro w_ hSw_; first | (go_simp; done) | (go_simp; with_reducible rfl))
                try simp only [Act.put, List.setIfInBounds_toArray, List.set_cons_zero, List.set_cons_succ]
                refine wpAnyH_take (i := 5) (oi := ⟨some 44, _, _, _, _, _⟩) (v := ?_) rfl (by kernel_rfl) (by kernel_rfl) (by kernel_rfl) (fun _ _ _ h => h) (Or.inl ⟨by rfl, ?_⟩) hS3_ ?_
                rotate_left
                · (intro w_ hSw_; first | (go_simp; done) | (go_simp; with_reducible rfl))
                try simp only [Act.put, List.setIfInBounds_toArray, List.set_cons_zero, List.set_cons_succ]
                refine wpAnyH_take (i := 6) (oi := ⟨some 45, _, _, _, _, _⟩) (v := ?_) rfl (by kernel_rfl) (by kernel_rfl) (by kernel_rfl) (fun _ _ _ h => h) (Or.inl ⟨by rfl, ?_⟩) hS3_ ?_
                rotate_left
                · (intro w_ hSw_; first | (go_simp; done) | (go_simp; with_reducible rfl))
                try simp only [Act.put, List.setIfInBounds_toArray, List.set_cons_zero, List.set_cons_succ]
                refine wpAnyH_take (i := 7) (oi := ⟨some 46, _, _, _, _, _⟩) (v := ?_) rfl (by kernel_rfl) (by kernel_rfl) (by kernel_rfl) (fun _ _ _ h => h) (Or.inl ⟨by rfl, ?_⟩) hS3_ ?_
                rotate_left
                · (intro w_ hSw_; first | (go_simp; done) | (go_simp; with_reducible rfl))
                try simp only [Act.put, List.setIfInBounds_toArray, List.set_cons_zero, List.set_cons_succ]
                refine wpAnyH_ready (rs := [9]) (by kernel_rfl) (by simp) ?_
                refine AllReadyH.cons rfl (fun K hK => ?_) ?_
                ·
                  have z0 := hB_.out.cell 0 _ rfl; have y0 := hB_.out.free 0; have z1 := hB_.out.cell 1 _ rfl; have y1 := hB_.out.free 1; have z2 := hB_.out.cell 2 _ rfl; have y2 := hB_.out.free 2; have z3 := hB_.out.cell 3 _ rfl; have y3 := hB_.out.free 3; have z4 := hB_.out.cell 4 _ rfl; have y4 := hB_.out.free 4
                  go_simp
                  clear z0 y0 z1 y1 z2 y2 z3 y3 z4 y4
                  refine hK.out _ _ ?_ (fun hS4_ => ?_)
                  · exact (by first | with_reducible exact hS3_.set5 hN_.out _ _ _ _ _ | with_reducible exact AwS.alloc (by assumption) _)
                  clear hK
                  as_aux_lemma =>
                    refine wpAnyH_take (i := 10) (oi := ⟨some 7, _, _, _, _, _⟩) (v := ?_) rfl (by kernel_rfl) (by kernel_rfl) (by kernel_rfl) (fun _ _ _ h => h) (Or.inl ⟨by rfl, ?_⟩) hS4_ ?_
                    rotate_left
                    · (intro w_ hSw_; first | (go_simp; done) | (go_simp; with_reducible rfl))
                    try simp only [Act.put, List.setIfInBounds_toArray, List.set_cons_zero, List.set_cons_succ]
                    refine wpAnyH_take (i := 11) (oi := ⟨some 8, _, _, _, _, _⟩) (v := ?_) rfl (by kernel_rfl) (by kernel_rfl) (by kernel_rfl) (fun _ _ _ h => h) (Or.inl ⟨by rfl, ?_⟩) hS4_ ?_
                    rotate_left
                    · (intro w_ hSw_; first | (go_simp; done) | (go_simp; with_reducible rfl))
                    try simp only [Act.put, List.setIfInBounds_toArray, List.set_cons_zero, List.set_cons_succ]
                    refine wpAnyH_done (by kernel_rfl) ?_ _
                    refine hK_ _ _ (Met.intro (hJ_ _ _ ?_))
                    (repeat apply Exists.intro)
                    refine ⟨?_, rfl⟩
                    exact ⟨_, _, rfl, rfl, rfl, ⟨(hS4_.add hQ_.out (by first | with_reducible exact hR_.out.old _ | with_reducible exact set5_other hR_.out hne_.out _ _ _ _ _)).add hN_.out.2 (by first | with_reducible exact Blk.new _ _ | with_reducible exact set5_blk hB_.out _ _ _ _ _)⟩⟩
                exact AllReadyH.nil
            exact AllReadyH.nil
        exact AllReadyH.nil
    exact AllReadyH.nil
  case rest =>
  clear AW
  obtain ⟨b6, q, rfl, rfl, rfl, AW⟩ := hcut
  go_wp2
  go_cut [9, 10, 11] (fun v9 v10 v11 w' => ∃ b9 : Nat, v9 = .pointer (some ⟨b9, 0, none⟩) ∧ v10 = .slice none 0 0 ∧ v11 = .int .i64 0 ∧ Aside (AwS w [(b9, #[.int .i64 0, .string ⟨#[68]⟩, .int .i64 1, .int .i64 100, .int .i64 0], 44), (b6, #[.int .i64 0, .string ⟨#[70]⟩, .int .i64 1, .int .i64 120, .int .i64 2], 44), (q, #[.string ⟨#[102, 97, 105, 108, 101, 100]⟩], 9), (b3, #[.int .i64 0, .string ⟨#[82]⟩, .int .i64 1, .int .i64 120, .int .i64 0], 44)] w'))
  case first =>
    rename_i J_ K_ hJ_ hK_
    refine wp_region_held_drew (S := AwS w [(b6, #[.int .i64 0, .string ⟨#[70]⟩, .int .i64 1, .int .i64 120, .int .i64 2], 44), (q, #[.string ⟨#[102, 97, 105, 108, 101, 100]⟩], 9), (b3, #[.int .i64 0, .string ⟨#[82]⟩, .int .i64 1, .int .i64 120, .int .i64 0], 44)]) (by kernel_rfl) AW.out.drew (fun hS0_ => ?_)
    generalize wc.drew = Wd_ at hS0_ ⊢
    refine' wpAnyH_take (i := 1) (oi := ⟨some 49, _, _, _, _, _⟩) (v := _) rfl (by kernel_rfl) (by kernel_rfl) (by kernel_rfl) (fun _ _ _ h => h) (yields_blk (S := AwS w [(b6, #[.int .i64 0, .string ⟨#[70]⟩, .int .i64 1, .int .i64 120, .int .i64 2], 44), (q, #[.string ⟨#[102, 97, 105, 108, 101, 100]⟩], 9), (b3, #[.int .i64 0, .string ⟨#[82]⟩, .int .i64 1, .int .i64 120, .int .i64 0], 44)]) (w.heap.size + 1) 42 _ (mcs (M0 w.heap.size)) 42 _ (by rfl) (by rfl) (by rfl) (fun _ h_ => h_.msg) Try.underlying42 rfl (by kernel_rfl)) hS0_ ?_
    try simp only [Act.put, List.setIfInBounds_toArray, List.set_cons_zero, List.set_cons_succ]
    refine' wpAnyH_take (i := 2) (oi := ⟨some 50, _, _, _, _, _⟩) (v := _) rfl (by kernel_rfl) (by kernel_rfl) (by kernel_rfl) (fun _ _ _ h => h) (yields_blk (S := AwS w [(b6, #[.int .i64 0, .string ⟨#[70]⟩, .int .i64 1, .int .i64 120, .int .i64 2], 44), (q, #[.string ⟨#[102, 97, 105, 108, 101, 100]⟩], 9), (b3, #[.int .i64 0, .string ⟨#[82]⟩, .int .i64 1, .int .i64 120, .int .i64 0], 44)]) (w.heap.size + 1 + 1) 44 _ #[.int .i64 0, .string ⟨#[82]⟩, .int .i64 0, .int .i64 100, .int .i64 0] 44 _ (by rfl) (by rfl) (by rfl) (fun _ h_ => h_.sta) Try.underlying44 rfl (by kernel_rfl)) hS0_ ?_
    try simp only [Act.put, List.setIfInBounds_toArray, List.set_cons_zero, List.set_cons_succ]
    as_aux_lemma =>
      refine wpAnyH_ready (rs := [0, 8]) (by kernel_rfl) (by simp) ?_
      refine AllReadyH.cons rfl (fun K hK => ?_) ?_
      ·
        go_simp
        go_wp2_with ((go_at_call 8; refine (usual_b _).mono ?_; rintro e w_ ⟨rfl, hb_⟩))
        refine hK.out _ _ ?_ (fun hS1_ => ?_)
        · exact (hS0_.next hb_)
        clear hK
        try (replace hB_ := Aside.mk (hB_.out.below hb_))
        clear hb_
        as_aux_lemma =>
          refine wpAnyH_ready (rs := [3, 8]) (by kernel_rfl) (by simp) ?_
          refine AllReadyH.cons rfl (fun K hK => ?_) ?_
          ·
            go_simp
            go_wp2_with ((go_at_call 7; refine (aw_C hS1_).mono ?_; rintro e w_ ⟨rfl, hb_⟩))
            refine hK.out _ _ ?_ (fun hS2_ => ?_)
            · exact (hS1_.next hb_)
            clear hK
            try (replace hB_ := Aside.mk (hB_.out.below hb_))
            clear hb_
            as_aux_lemma =>
              refine wpAnyH_take (i := 4) (oi := ⟨some 47, _, _, _, _, _⟩) (v := ?_) rfl (by kernel_rfl) (by kernel_rfl) (by kernel_rfl) (fun _ _ _ h => h) (Or.inl ⟨by rfl, ?_⟩) hS2_ ?_
              rotate_left
              · (intro w_ hSw_; first | (go_simp; done) | (go_simp; with_reducible rfl))
              try simp only [Act.put, List.setIfInBounds_toArray, List.set_cons_zero, List.set_cons_succ]
              refine wpAnyH_take (i := 5) (oi := ⟨some 52, _, _, _, _, _⟩) (v := ?_) rfl (by kernel_rfl) (by kernel_rfl) (by kernel_rfl) (fun _ _ _ h => h) (Or.inl ⟨by rfl, ?_⟩) hS2_ ?_
              rotate_left
              · (intro w_ hSw_; first | (go_simp; done) | (go_simp; with_reducible rfl))
              try simp only [Act.put, List.setIfInBounds_toArray, List.set_cons_zero, List.set_cons_succ]
              refine wpAnyH_take (i := 6) (oi := ⟨some 53, _, _, _, _, _⟩) (v := ?_) rfl (by kernel_rfl) (by kernel_rfl) (by kernel_rfl) (fun _ _ _ h => h) (Or.inl ⟨by rfl, ?_⟩) hS2_ ?_
              rotate_left
              · (intro w_ hSw_; first | (go_simp; done) | (go_simp; with_reducible rfl))
              try simp only [Act.put, List.setIfInBounds_toArray, List.set_cons_zero, List.set_cons_succ]
              refine wpAnyH_take (i := 7) (oi := ⟨some 54, _, _, _, _, _⟩) (v := ?_) rfl (by kernel_rfl) (by kernel_rfl) (by kernel_rfl) (fun _ _ _ h => h) (Or.inl ⟨by rfl, ?_⟩) hS2_ ?_
              rotate_left
              · (intro w_ hSw_; first | (go_simp; done) | (go_simp; with_reducible rfl))
              try simp only [Act.put, List.setIfInBounds_toArray, List.set_cons_zero, List.set_cons_succ]
              refine wpAnyH_ready (rs := [8]) (by kernel_rfl) (by simp) ?_
              refine AllReadyH.cons rfl (fun K hK => ?_) ?_
              ·
                have hN_ := Aside.mk hS2_.fresh
                have hB_ := Aside.mk hS2_.newb
                go_simp
                refine hK.out _ _ ?_ (fun hS3_ => ?_)
                · exact (hS2_.alloc _)
                clear hK
                as_aux_lemma =>
                  refine wpAnyH_ready (rs := [9]) (by kernel_rfl) (by simp) ?_
                  refine AllReadyH.cons rfl (fun K hK => ?_) ?_
                  ·
                    have z0 := hB_.out.cell 0 _ rfl; have y0 := hB_.out.free 0; have z1 := hB_.out.cell 1 _ rfl; have y1 := hB_.out.free 1; have z2 := hB_.out.cell 2 _ rfl; have y2 := hB_.out.free 2; have z3 := hB_.out.cell 3 _ rfl; have y3 := hB_.out.free 3; have z4 := hB_.out.cell 4 _ rfl; have y4 := hB_.out.free 4
                    go_simp
                    clear z0 y0 z1 y1 z2 y2 z3 y3 z4 y4
                    refine hK.out _ _ ?_ (fun hS4_ => ?_)
                    · exact (by first | with_reducible exact hS3_.set5 hN_.out _ _ _ _ _ | with_reducible exact AwS.alloc (by assumption) _)
                    clear hK
                    as_aux_lemma =>
                      refine wpAnyH_take (i := 10) (oi := ⟨some 10, _, _, _, _, _⟩) (v := ?_) rfl (by kernel_rfl) (by kernel_rfl) (by kernel_rfl) (fun _ _ _ h => h) (Or.inl ⟨by rfl, ?_⟩) hS4_ ?_
                      rotate_left
                      · (intro w_ hSw_; first | (go_simp; done) | (go_simp; with_reducible rfl))
                      try simp only [Act.put, List.setIfInBounds_toArray, List.set_cons_zero, List.set_cons_succ]
                      refine wpAnyH_take (i := 11) (oi := ⟨some 11, _, _, _, _, _⟩) (v := ?_) rfl (by kernel_rfl) (by kernel_rfl) (by kernel_rfl) (fun _ _ _ h => h) (Or.inl ⟨by rfl, ?_⟩) hS4_ ?_
                      rotate_left
                      · (intro w_ hSw_; first | (go_simp; done) | (go_simp; with_reducible rfl))
                      try simp only [Act.put, List.setIfInBounds_toArray, List.set_cons_zero, List.set_cons_succ]
                      refine wpAnyH_done (by kernel_rfl) ?_ _
                      refine hK_ _ _ (Met.intro (hJ_ _ _ ?_))
                      (repeat apply Exists.intro)
                      refine ⟨?_, rfl⟩
                      exact ⟨_, rfl, rfl, rfl, ⟨hS4_.add hN_.out.2 (by first | with_reducible exact Blk.new _ _ | with_reducible exact set5_blk hB_.out _ _ _ _ _)⟩⟩
                  exact AllReadyH.nil
              exact AllReadyH.nil
          refine AllReadyH.cons rfl (fun K hK => ?_) ?_
          ·
            have hN_ := Aside.mk hS1_.fresh
            have hB_ := Aside.mk hS1_.newb
            go_simp
            refine hK.out _ _ ?_ (fun hS2_ => ?_)
            · exact (hS1_.alloc _)
            clear hK
            as_aux_lemma =>
              refine wpAnyH_ready (rs := [3]) (by kernel_rfl) (by simp) ?_
              refine AllReadyH.cons rfl (fun K hK => ?_) ?_
              ·
                go_simp
                go_wp2_with ((go_at_call 7; refine (aw_C hS2_).mono ?_; rintro e w_ ⟨rfl, hb_⟩))
                refine hK.out _ _ ?_ (fun hS3_ => ?_)
                · exact (hS2_.next hb_)
                clear hK
                try (replace hB_ := Aside.mk (hB_.out.below hb_))
                clear hb_
                as_aux_lemma =>
                  refine wpAnyH_take (i := 4) (oi := ⟨some 47, _, _, _, _, _⟩) (v := ?_) rfl (by kernel_rfl) (by kernel_rfl) (by kernel_rfl) (fun _ _ _ h => h) (Or.inl ⟨by rfl, ?_⟩) hS3_ ?_
                  rotate_left
                  · (intro w_ hSw_; first | (go_simp; done) | (go_simp; with_reducible rfl))
                  try simp only [Act.put, List.setIfInBounds_toArray, List.set_cons_zero, List.set_cons_succ]
                  refine wpAnyH_take (i := 5) (oi := ⟨some 52, _, _, _, _, _⟩) (v := ?_) rfl (by kernel_rfl) (by kernel_rfl) (by kernel_rfl) (fun _ _ _ h => h) (Or.inl ⟨by rfl, ?_⟩) hS3_ ?_
                  rotate_left
                  · (intro w_ hSw_; first | (go_simp; done) | (go_simp; with_reducible rfl))
                  try simp only [Act.put, List.setIfInBounds_toArray, List.set_cons_zero, List.set_cons_succ]
                  as_aux_lemma =>
                    refine wpAnyH_take (i := 6) (oi := ⟨some 53, _, _, _, _, _⟩) (v := ?_) rfl (by kernel_rfl) (by kernel_rfl) (by kernel_rfl) (fun _ _ _ h => h) (Or.inl ⟨by rfl, ?_⟩) hS3_ ?_
                    rotate_left
                    · (intro w_ hSw_; first | (go_simp; done) | (go_simp; with_reducible rfl))
                    try simp only [Act.put, List.setIfInBounds_toArray, List.set_cons_zero, List.set_cons_succ]
                    refine wpAnyH_take (i := 7) (oi := ⟨some 54, _, _, _, _, _⟩) (v := ?_) rfl (by kernel_rfl) (by kernel_rfl) (by kernel_rfl) (fun _ _ _ h => h) (Or.inl ⟨by rfl, ?_⟩) hS3_ ?_
                    rotate_left
                    · (intro w_ hSw_; first | (go_simp; done) | (go_simp; with_reducible rfl))
                    try simp only [Act.put, List.setIfInBounds_toArray, List.set_cons_zero, List.set_cons_succ]
                    refine wpAnyH_ready (rs := [9]) (by kernel_rfl) (by simp) ?_
                    refine AllReadyH.cons rfl (fun K hK => ?_) ?_
                    ·
                      have z0 := hB_.out.cell 0 _ rfl; have y0 := hB_.out.free 0; have z1 := hB_.out.cell 1 _ rfl; have y1 := hB_.out.free 1; have z2 := hB_.out.cell 2 _ rfl; have y2 := hB_.out.free 2; have z3 := hB_.out.cell 3 _ rfl; have y3 := hB_.out.free 3; have z4 := hB_.out.cell 4 _ rfl; have y4 := hB_.out.free 4
                      go_simp
                      clear z0 y0 z1 y1 z2 y2 z3 y3 z4 y4
                      refine hK.out _ _ ?_ (fun hS4_ => ?_)
                      · exact (by first | with_reducible exact hS3_.set5 hN_.out _ _ _ _ _ | with_reducible exact AwS.alloc (by assumption) _)
                      clear hK
                      as_aux_lemma =>
                        refine wpAnyH_take (i := 10) (oi := ⟨some 10, _, _, _, _, _⟩) (v := ?_) rfl (by kernel_rfl) (by kernel_rfl) (by kernel_rfl) (fun _ _ _ h => h) (Or.inl ⟨by rfl, ?_⟩) hS4_ ?_
                        rotate_left
                        · (intro w_ hSw_; first | (go_simp; done) | (go_simp; with_reducible rfl))
                        try simp only [Act.put, List.setIfInBounds_toArray, List.set_cons_zero, List.set_cons_succ]
                        refine wpAnyH_take (i := 11) (oi := ⟨some 11, _, _, _, _, _⟩) (v := ?_) rfl (by kernel_rfl) (by kernel_rfl) (by kernel_rfl) (fun _ _ _ h => h) (Or.inl ⟨by rfl, ?_⟩) hS4_ ?_
                        rotate_left
                        · (intro w_ hSw_; first | (go_simp; done) | (go_simp; with_reducible rfl))
                        try simp only [Act.put, List.setIfInBounds_toArray, List.set_cons_zero, List.set_cons_succ]
                        refine wpAnyH_done (by kernel_rfl) ?_ _
                        refine hK_ _ _ (Met.intro (hJ_ _ _ ?_))
                        (repeat apply Exists.intro)
                        refine ⟨?_, rfl⟩
                        exact ⟨_, rfl, rfl, rfl, ⟨hS4_.add hN_.out.2 (by first | with_reducible exact Blk.new _ _ | with_reducible exact set5_blk hB_.out _ _ _ _ _)⟩⟩
                    exact AllReadyH.nil
              exact AllReadyH.nil
          exact AllReadyH.nil
      refine AllReadyH.cons rfl (fun K hK => ?_) ?_
      ·
        have hN_ := Aside.mk hS0_.fresh
        have hB_ := Aside.mk hS0_.newb
        go_simp
        refine hK.out _ _ ?_ (fun hS1_ => ?_)
        · exact (hS0_.alloc _)
        clear hK
        as_aux_lemma =>
          refine wpAnyH_ready (rs := [0]) (by kernel_rfl) (by simp) ?_
          refine AllReadyH.cons rfl (fun K hK => ?_) ?_
          ·
            go_simp
            go_wp2_with ((go_at_call 8; refine (usual_b _).mono ?_; rintro e w_ ⟨rfl, hb_⟩))
            refine hK.out _ _ ?_ (fun hS2_ => ?_)
            · exact (hS1_.next hb_)
            clear hK
            try (replace hB_ := Aside.mk (hB_.out.below hb_))
            clear hb_
            as_aux_lemma =>
              refine wpAnyH_ready (rs := [3]) (by kernel_rfl) (by simp) ?_
              refine AllReadyH.cons rfl (fun K hK => ?_) ?_
              ·
                go_simp
                go_wp2_with ((go_at_call 7; refine (aw_C hS2_).mono ?_; rintro e w_ ⟨rfl, hb_⟩))
                refine hK.out _ _ ?_ (fun hS3_ => ?_)
                · exact (hS2_.next hb_)
                clear hK
                try (replace hB_ := Aside.mk (hB_.out.below hb_))
                clear hb_
                as_aux_lemma =>
                  refine wpAnyH_take (i := 4) (oi := ⟨some 47, _, _, _, _, _⟩) (v := ?_) rfl (by kernel_rfl) (by kernel_rfl) (by kernel_rfl) (fun _ _ _ h => h) (Or.inl ⟨by rfl, ?_⟩) hS3_ ?_
                  rotate_left
                  · (intro w_ hSw_; first | (go_simp; done) | (go_simp; with_reducible rfl))
                  try simp only [Act.put, List.setIfInBounds_toArray, List.set_cons_zero, List.set_cons_succ]
                  refine wpAnyH_take (i := 5) (oi := ⟨some 52, _, _, _, _, _⟩) (v := ?_) rfl (by kernel_rfl) (by kernel_rfl) (by kernel_rfl) (fun _ _ _ h => h) (Or.inl ⟨by rfl, ?_⟩) hS3_ ?_
                  rotate_left
                  · (intro w_ hSw_; first | (go_simp; done) | (go_simp; with_reducible rfl))
                  try simp only [Act.put, List.setIfInBounds_toArray, List.set_cons_zero, List.set_cons_succ]
                  refine wpAnyH_take (i := 6) (oi := ⟨some 53, _, _, _, _, _⟩) (v := ?_) rfl (by kernel_rfl) (by kernel_rfl) (by kernel_rfl) (fun _ _ _ h => h) (Or.inl ⟨by rfl, ?_⟩) hS3_ ?_
                  rotate_left
                  · (intro w_ hSw_; first | (go_simp; done) | (go_simp; with_reducible rfl))
                  try simp only [Act.put, List.setIfInBounds_toArray, List.set_cons_zero, List.set_cons_succ]
                  refine wpAnyH_take (i := 7) (oi := ⟨some 54, _, _, _, _, _⟩) (v := ?_) rfl (by kernel_rfl) (by kernel_rfl) (by kernel_rfl) (fun _ _ _ h => h) (Or.inl ⟨by rfl, ?_⟩) hS3_ ?_
                  rotate_left
                  · (intro w_ hSw_; first | (go_simp; done) | (go_simp; with_reducible rfl))
                  try simp only [Act.put, List.setIfInBounds_toArray, List.set_cons_zero, List.set_cons_succ]
                  as_aux_lemma =>
                    refine wpAnyH_ready (rs := [9]) (by kernel_rfl) (by simp) ?_
                    refine AllReadyH.cons rfl (fun K hK => ?_) ?_
                    ·
                      have z0 := hB_.out.cell 0 _ rfl; have y0 := hB_.out.free 0; have z1 := hB_.out.cell 1 _ rfl; have y1 := hB_.out.free 1; have z2 := hB_.out.cell 2 _ rfl; have y2 := hB_.out.free 2; have z3 := hB_.out.cell 3 _ rfl; have y3 := hB_.out.free 3; have z4 := hB_.out.cell 4 _ rfl; have y4 := hB_.out.free 4
                      go_simp
                      clear z0 y0 z1 y1 z2 y2 z3 y3 z4 y4
                      refine hK.out _ _ ?_ (fun hS4_ => ?_)
                      · exact (by first | with_reducible exact hS3_.set5 hN_.out _ _ _ _ _ | with_reducible exact AwS.alloc (by assumption) _)
                      clear hK
                      as_aux_lemma =>
                        refine wpAnyH_take (i := 10) (oi := ⟨some 10, _, _, _, _, _⟩) (v := ?_) rfl (by kernel_rfl) (by kernel_rfl) (by kernel_rfl) (fun _ _ _ h => h) (Or.inl ⟨by rfl, ?_⟩) hS4_ ?_
                        rotate_left
                        · (intro w_ hSw_; first | (go_simp; done) | (go_simp; with_reducible rfl))
                        try simp only [Act.put, List.setIfInBounds_toArray, List.set_cons_zero, List.set_cons_succ]
                        refine wpAnyH_take (i := 11) (oi := ⟨some 11, _, _, _, _, _⟩) (v := ?_) rfl (by kernel_rfl) (by kernel_rfl) (by kernel_rfl) (fun _ _ _ h => h) (Or.inl ⟨by rfl, ?_⟩) hS4_ ?_
                        rotate_left
                        · (intro w_ hSw_; first | (go_simp; done) | (go_simp; with_reducible rfl))
                        try simp only [Act.put, List.setIfInBounds_toArray, List.set_cons_zero, List.set_cons_succ]
                        refine wpAnyH_done (by kernel_rfl) ?_ _
                        refine hK_ _ _ (Met.intro (hJ_ _ _ ?_))
                        (repeat apply Exists.intro)
                        refine ⟨?_, rfl⟩
                        exact ⟨_, rfl, rfl, rfl, ⟨hS4_.add hN_.out.2 (by first | with_reducible exact Blk.new _ _ | with_reducible exact set5_blk hB_.out _ _ _ _ _)⟩⟩
                    exact AllReadyH.nil
              exact AllReadyH.nil
          exact AllReadyH.nil
      exact AllReadyH.nil
  case rest =>
  clear AW
  obtain ⟨b9, rfl, rfl, rfl, AW⟩ := hcut
  go_wp2
  go_cut [12, 13, 14] (fun v12 v13 v14 w' => ∃ b12 : Nat, v12 = .pointer (some ⟨b12, 0, none⟩) ∧ v13 = .slice none 0 0 ∧ v14 = .int .i64 9 ∧ Aside (AwS w [(b12, #[.int .i64 0, .string ⟨#[]⟩, .int .i64 0, .int .i64 0, .int .i64 0], 44), (b9, #[.int .i64 0, .string ⟨#[68]⟩, .int .i64 1, .int .i64 100, .int .i64 0], 44), (b6, #[.int .i64 0, .string ⟨#[70]⟩, .int .i64 1, .int .i64 120, .int .i64 2], 44), (q, #[.string ⟨#[102, 97, 105, 108, 101, 100]⟩], 9), (b3, #[.int .i64 0, .string ⟨#[82]⟩, .int .i64 1, .int .i64 120, .int .i64 0], 44)] w'))
  case first =>
    rename_i J_ K_ hJ_ hK_
    refine wp_region_held_drew (S := AwS w [(b9, #[.int .i64 0, .string ⟨#[68]⟩, .int .i64 1, .int .i64 100, .int .i64 0], 44), (b6, #[.int .i64 0, .string ⟨#[70]⟩, .int .i64 1, .int .i64 120, .int .i64 2], 44), (q, #[.string ⟨#[102, 97, 105, 108, 101, 100]⟩], 9), (b3, #[.int .i64 0, .string ⟨#[82]⟩, .int .i64 1, .int .i64 120, .int .i64 0], 44)]) (by kernel_rfl) AW.out.drew (fun hS0_ => ?_)
    generalize wc.drew = Wd_ at hS0_ ⊢
    refine' wpAnyH_take (i := 1) (oi := ⟨some 57, _, _, _, _, _⟩) (v := _) rfl (by kernel_rfl) (by kernel_rfl) (by kernel_rfl) (fun _ _ _ h => h) (yields_blk (S := AwS w [(b9, #[.int .i64 0, .string ⟨#[68]⟩, .int .i64 1, .int .i64 100, .int .i64 0], 44), (b6, #[.int .i64 0, .string ⟨#[70]⟩, .int .i64 1, .int .i64 120, .int .i64 2], 44), (q, #[.string ⟨#[102, 97, 105, 108, 101, 100]⟩], 9), (b3, #[.int .i64 0, .string ⟨#[82]⟩, .int .i64 1, .int .i64 120, .int .i64 0], 44)]) (w.heap.size + 1) 42 _ (mcs (M0 w.heap.size)) 42 _ (by rfl) (by rfl) (by rfl) (fun _ h_ => h_.msg) Try.underlying42 rfl (by kernel_rfl)) hS0_ ?_
    try simp only [Act.put, List.setIfInBounds_toArray, List.set_cons_zero, List.set_cons_succ]
    refine' wpAnyH_take (i := 2) (oi := ⟨some 58, _, _, _, _, _⟩) (v := _) rfl (by kernel_rfl) (by kernel_rfl) (by kernel_rfl) (fun _ _ _ h => h) (yields_blk (S := AwS w [(b9, #[.int .i64 0, .string ⟨#[68]⟩, .int .i64 1, .int .i64 100, .int .i64 0], 44), (b6, #[.int .i64 0, .string ⟨#[70]⟩, .int .i64 1, .int .i64 120, .int .i64 2], 44), (q, #[.string ⟨#[102, 97, 105, 108, 101, 100]⟩], 9), (b3, #[.int .i64 0, .string ⟨#[82]⟩, .int .i64 1, .int .i64 120, .int .i64 0], 44)]) (b6) 44 _ #[.int .i64 0, .string ⟨#[70]⟩, .int .i64 1, .int .i64 120, .int .i64 2] 44 _ (by rfl) (by rfl) (by rfl) (fun _ h_ => (h_.own (b6, #[.int .i64 0, .string ⟨#[70]⟩, .int .i64 1, .int .i64 120, .int .i64 2], 44) (by simp)).2) Try.underlying44 rfl (by kernel_rfl)) hS0_ ?_
    try simp only [Act.put, List.setIfInBounds_toArray, List.set_cons_zero, List.set_cons_succ]
    refine wpAnyH_ready (rs := [0, 8]) (by kernel_rfl) (by simp) ?_
    refine AllReadyH.cons rfl (fun K hK => ?_) ?_
    ·
      go_simp
      go_wp2_with ((go_at_call 8; refine (usual_b _).mono ?_; rintro e w_ ⟨rfl, hb_⟩))
      refine hK.out _ _ ?_ (fun hS1_ => ?_)
      · exact (hS0_.next hb_)
      clear hK
      try (replace hB_ := Aside.mk (hB_.out.below hb_))
      clear hb_
      as_aux_lemma =>
        refine wpAnyH_ready (rs := [3, 8]) (by kernel_rfl) (by simp) ?_
        refine AllReadyH.cons rfl (fun K hK => ?_) ?_
        ·
          go_simp
          go_wp2_with ((go_at_call 9; refine (aw_D _).mono ?_; rintro e w_ ⟨rfl, hb_⟩))
          refine hK.out _ _ ?_ (fun hS2_ => ?_)
          · exact (hS1_.next hb_)
          clear hK
          try (replace hB_ := Aside.mk (hB_.out.below hb_))
          clear hb_
          as_aux_lemma =>
            refine wpAnyH_take (i := 4) (oi := ⟨some 55, _, _, _, _, _⟩) (v := ?_) rfl (by kernel_rfl) (by kernel_rfl) (by kernel_rfl) (fun _ _ _ h => h) (Or.inl ⟨by rfl, ?_⟩) hS2_ ?_
            rotate_left
            · (intro w_ hSw_; first | (go_simp; done) | (go_simp; with_reducible rfl))
            try simp only [Act.put, List.setIfInBounds_toArray, List.set_cons_zero, List.set_cons_succ]
            refine wpAnyH_take (i := 5) (oi := ⟨some 60, _, _, _, _, _⟩) (v := ?_) rfl (by kernel_rfl) (by kernel_rfl) (by kernel_rfl) (fun _ _ _ h => h) (Or.inl ⟨by rfl, ?_⟩) hS2_ ?_
            rotate_left
            · (intro w_ hSw_; first | (go_simp; done) | (go_simp; with_reducible rfl))
            try simp only [Act.put, List.setIfInBounds_toArray, List.set_cons_zero, List.set_cons_succ]
            refine wpAnyH_take (i := 6) (oi := ⟨some 61, _, _, _, _, _⟩) (v := ?_) rfl (by kernel_rfl) (by kernel_rfl) (by kernel_rfl) (fun _ _ _ h => h) (Or.inl ⟨by rfl, ?_⟩) hS2_ ?_
            rotate_left
            · (intro w_ hSw_; first | (go_simp; done) | (go_simp; with_reducible rfl))
            try simp only [Act.put, List.setIfInBounds_toArray, List.set_cons_zero, List.set_cons_succ]
            refine wpAnyH_take (i := 7) (oi := ⟨some 62, _, _, _, _, _⟩) (v := ?_) rfl (by kernel_rfl) (by kernel_rfl) (by kernel_rfl) (fun _ _ _ h => h) (Or.inl ⟨by rfl, ?_⟩) hS2_ ?_
            rotate_left
            · (intro w_ hSw_; first | (go_simp; done) | (go_simp; with_reducible rfl))
            try simp only [Act.put, List.setIfInBounds_toArray, List.set_cons_zero, List.set_cons_succ]
            as_aux_lemma =>
              refine wpAnyH_ready (rs := [8]) (by kernel_rfl) (by simp) ?_
              refine AllReadyH.cons rfl (fun K hK => ?_) ?_
              ·
                have hN_ := Aside.mk hS2_.fresh
                have hB_ := Aside.mk hS2_.newb
                go_simp
                refine hK.out _ _ ?_ (fun hS3_ => ?_)
                · exact (hS2_.alloc _)
                clear hK
                as_aux_lemma =>
                  refine wpAnyH_ready (rs := [9]) (by kernel_rfl) (by simp) ?_
                  refine AllReadyH.cons rfl (fun K hK => ?_) ?_
                  ·
                    have z0 := hB_.out.cell 0 _ rfl; have y0 := hB_.out.free 0; have z1 := hB_.out.cell 1 _ rfl; have y1 := hB_.out.free 1; have z2 := hB_.out.cell 2 _ rfl; have y2 := hB_.out.free 2; have z3 := hB_.out.cell 3 _ rfl; have y3 := hB_.out.free 3; have z4 := hB_.out.cell 4 _ rfl; have y4 := hB_.out.free 4
                    go_simp
                    clear z0 y0 z1 y1 z2 y2 z3 y3 z4 y4
                    refine hK.out _ _ ?_ (fun hS4_ => ?_)
                    · exact (by first | with_reducible exact hS3_.set5 hN_.out _ _ _ _ _ | with_reducible exact AwS.alloc (by assumption) _)
                    clear hK
                    as_aux_lemma =>
                      refine wpAnyH_take (i := 10) (oi := ⟨some 13, _, _, _, _, _⟩) (v := ?_) rfl (by kernel_rfl) (by kernel_rfl) (by kernel_rfl) (fun _ _ _ h => h) (Or.inl ⟨by rfl, ?_⟩) hS4_ ?_
                      rotate_left
                      · (intro w_ hSw_; first | (go_simp; done) | (go_simp; with_reducible rfl))
                      try simp only [Act.put, List.setIfInBounds_toArray, List.set_cons_zero, List.set_cons_succ]
                      refine wpAnyH_take (i := 11) (oi := ⟨some 14, _, _, _, _, _⟩) (v := ?_) rfl (by kernel_rfl) (by kernel_rfl) (by kernel_rfl) (fun _ _ _ h => h) (Or.inl ⟨by rfl, ?_⟩) hS4_ ?_
                      rotate_left
                      · (intro w_ hSw_; first | (go_simp; done) | (go_simp; with_reducible rfl))
                      try simp only [Act.put, List.setIfInBounds_toArray, List.set_cons_zero, List.set_cons_succ]
                      refine wpAnyH_done (by kernel_rfl) ?_ _
                      refine hK_ _ _ (Met.intro (hJ_ _ _ ?_))
                      (repeat apply Exists.intro)
                      refine ⟨?_, rfl⟩
                      exact ⟨_, rfl, rfl, rfl, ⟨hS4_.add hN_.out.2 (by first | with_reducible exact Blk.new _ _ | with_reducible exact set5_blk hB_.out _ _ _ _ _)⟩⟩
                  exact AllReadyH.nil
              exact AllReadyH.nil
        refine AllReadyH.cons rfl (fun K hK => ?_) ?_
        ·
          have hN_ := Aside.mk hS1_.fresh
          have hB_ := Aside.mk hS1_.newb
          go_simp
          refine hK.out _ _ ?_ (fun hS2_ => ?_)
          · exact (hS1_.alloc _)
          clear hK
          as_aux_lemma =>
            refine wpAnyH_ready (rs := [3]) (by kernel_rfl) (by simp) ?_
            refine AllReadyH.cons rfl (fun K hK => ?_) ?_
            ·
              go_simp
              go_wp2_with ((go_at_call 9; refine (aw_D _).mono ?_; rintro e w_ ⟨rfl, hb_⟩))
              refine hK.out _ _ ?_ (fun hS3_ => ?_)
              · exact (hS2_.next hb_)
              clear hK
              try (replace hB_ := Aside.mk (hB_.out.below hb_))
              clear hb_
              as_aux_lemma =>
                refine wpAnyH_take (i := 4) (oi := ⟨some 55, _, _, _, _, _⟩) (v := ?_) rfl (by kernel_rfl) (by kernel_rfl) (by kernel_rfl) (fun _ _ _ h => h) (Or.inl ⟨by rfl, ?_⟩) hS3_ ?_
                rotate_left
                · (intro w_ hSw_; first | (go_simp; done) | (go_simp; with_reducible rfl))
                try simp only [Act.put, List.setIfInBounds_toArray, List.set_cons_zero, List.set_cons_succ]
                refine wpAnyH_take (i := 5) (oi := ⟨some 60, _, _, _, _, _⟩) (v := ?_) rfl (by kernel_rfl) (by kernel_rfl) (by kernel_rfl) (fun _ _ _ h => h) (Or.inl ⟨by rfl, ?_⟩) hS3_ ?_
                rotate_left
                · (intro w_ hSw_; first | (go_simp; done) | (go_simp; with_reducible rfl))
                try simp only [Act.put, List.setIfInBounds_toArray, List.set_cons_zero, List.set_cons_succ]
                refine wpAnyH_take (i := 6) (oi := ⟨some 61, _, _, _, _, _⟩) (v := ?_) rfl (by kernel_rfl) (by kernel_rfl) (by kernel_rfl) (fun _ _ _ h => h) (Or.inl ⟨by rfl, ?_⟩) hS3_ ?_
                rotate_left
                · (intro w_ hSw_; first | (go_simp; done) | (go_simp; with_reducible rfl))
                try simp only [Act.put, List.setIfInBounds_toArray, List.set_cons_zero, List.set_cons_succ]
                refine wpAnyH_take (i := 7) (oi := ⟨some 62, _, _, _, _, _⟩) (v := ?_) rfl (by kernel_rfl) (by kernel_rfl) (by kernel_rfl) (fun _ _ _ h => h) (Or.inl ⟨by rfl, ?_⟩) hS3_ ?_
                rotate_left
                · (intro w_ hSw_; first | (go_simp; done) | (go_simp; with_reducible rfl))
                try simp only [Act.put, List.setIfInBounds_toArray, List.set_cons_zero, List.set_cons_succ]
                refine wpAnyH_ready (rs := [9]) (by kernel_rfl) (by simp) ?_
                refine AllReadyH.cons rfl (fun K hK => ?_) ?_
                ·
                  have z0 := hB_.out.cell 0 _ rfl; have y0 := hB_.out.free 0; have z1 := hB_.out.cell 1 _ rfl; have y1 := hB_.out.free 1; have z2 := hB_.out.cell 2 _ rfl; have y2 := hB_.out.free 2; have z3 := hB_.out.cell 3 _ rfl; have y3 := hB_.out.free 3; have z4 := hB_.out.cell 4 _ rfl; have y4 := hB_.out.free 4
                  go_simp
                  clear z0 y0 z1 y1 z2 y2 z3 y3 z4 y4
                  refine hK.out _ _ ?_ (fun hS4_ => ?_)
                  · exact (by first | with_reducible exact hS3_.set5 hN_.out _ _ _ _ _ | with_reducible exact AwS.alloc (by assumption) _)
                  clear hK
                  as_aux_lemma =>
                    refine wpAnyH_take (i := 10) (oi := ⟨some 13, _, _, _, _, _⟩) (v := ?_) rfl (by kernel_rfl) (by kernel_rfl) (by kernel_rfl) (fun _ _ _ h => h) (Or.inl ⟨by rfl, ?_⟩) hS4_ ?_
                    rotate_left
                    · (intro w_ hSw_; first | (go_simp; done) | (go_simp; with_reducible rfl))
                    try simp only [Act.put, List.setIfInBounds_toArray, List.set_cons_zero, List.set_cons_succ]
                    refine wpAnyH_take (i := 11) (oi := ⟨some 14, _, _, _, _, _⟩) (v := ?_) rfl (by kernel_rfl) (by kernel_rfl) (by kernel_rfl) (fun _ _ _ h => h) (Or.inl ⟨by rfl, ?_⟩) hS4_ ?_
                    rotate_left
                    · (intro w_ hSw_; first | (go_simp; done) | (go_simp; with_reducible rfl))
                    try simp only [Act.put, List.setIfInBounds_toArray, List.set_cons_zero, List.set_cons_succ]
                    as_aux_lemma =>
                      refine wpAnyH_done (by kernel_rfl) ?_ _
                      refine hK_ _ _ (Met.intro (hJ_ _ _ ?_))
                      (repeat apply Exists.intro)
                      refine ⟨?_, rfl⟩
                      exact ⟨_, rfl, rfl, rfl, ⟨hS4_.add hN_.out.2 (by first | with_reducible exact Blk.new _ _ | with_reducible exact set5_blk hB_.out _ _ _ _ _)⟩⟩
                exact AllReadyH.nil
            exact AllReadyH.nil
        exact AllReadyH.nil
    refine AllReadyH.cons rfl (fun K hK => ?_) ?_
    ·
      have hN_ := Aside.mk hS0_.fresh
      have hB_ := Aside.mk hS0_.newb
      go_simp
      refine hK.out _ _ ?_ (fun hS1_ => ?_)
      · exact (hS0_.alloc _)
      clear hK
      as_aux_lemma =>
        refine wpAnyH_ready (rs := [0]) (by kernel_rfl) (by simp) ?_
        refine AllReadyH.cons rfl (fun K hK => ?_) ?_
        ·
          go_simp
          go_wp2_with ((go_at_call 8; refine (usual_b _).mono ?_; rintro e w_ ⟨rfl, hb_⟩))
          refine hK.out _ _ ?_ (fun hS2_ => ?_)
          · exact (hS1_.next hb_)
          clear hK
          try (replace hB_ := Aside.mk (hB_.out.below hb_))
          clear hb_
          as_aux_lemma =>
            refine wpAnyH_ready (rs := [3]) (by kernel_rfl) (by simp) ?_
            refine AllReadyH.cons rfl (fun K hK => ?_) ?_
            ·
              go_simp
              go_wp2_with ((go_at_call 9; refine (aw_D _).mono ?_; rintro e w_ ⟨rfl, hb_⟩))
              refine hK.out _ _ ?_ (fun hS3_ => ?_)
              · exact (hS2_.next hb_)
              clear hK
              try (replace hB_ := Aside.mk (hB_.out.below hb_))
              clear hb_
              as_aux_lemma =>
                refine wpAnyH_take (i := 4) (oi := ⟨some 55, _, _, _, _, _⟩) (v := ?_) rfl (by kernel_rfl) (by kernel_rfl) (by kernel_rfl) (fun _ _ _ h => h) (Or.inl ⟨by rfl, ?_⟩) hS3_ ?_
                rotate_left
                · (intro w_ hSw_; first | (go_simp; done) | (go_simp; with_reducible rfl))
                try simp only [Act.put, List.setIfInBounds_toArray, List.set_cons_zero, List.set_cons_succ]
                refine wpAnyH_take (i := 5) (oi := ⟨some 60, _, _, _, _, _⟩) (v := ?_) rfl (by kernel_rfl) (by kernel_rfl) (by kernel_rfl) (fun _ _ _ h => h) (Or.inl ⟨by rfl, ?_⟩) hS3_ ?_
                rotate_left
                · (intro w_ hSw_; first | (go_simp; done) | (go_simp; with_reducible rfl))
                try simp only [Act.put, List.setIfInBounds_toArray, List.set_cons_zero, List.set_cons_succ]
                refine wpAnyH_take (i := 6) (oi := ⟨some 61, _, _, _, _, _⟩) (v := ?_) rfl (by kernel_rfl) (by kernel_rfl) (by kernel_rfl) (fun _ _ _ h => h) (Or.inl ⟨by rfl, ?_⟩) hS3_ ?_
                rotate_left
                · (intro w_ hSw_; first | (go_simp; done) | (go_simp; with_reducible rfl))
                try simp only [Act.put, List.setIfInBounds_toArray, List.set_cons_zero, List.set_cons_succ]
                refine wpAnyH_take (i := 7) (oi := ⟨some 62, _, _, _, _, _⟩) (v := ?_) rfl (by kernel_rfl) (by kernel_rfl) (by kernel_rfl) (fun _ _ _ h => h) (Or.inl ⟨by rfl, ?_⟩) hS3_ ?_
                rotate_left
                · (intro w_ hSw_; first | (go_simp; done) | (go_simp; with_reducible rfl))
                try simp only [Act.put, List.setIfInBounds_toArray, List.set_cons_zero, List.set_cons_succ]
                refine wpAnyH_ready (rs := [9]) (by kernel_rfl) (by simp) ?_
                refine AllReadyH.cons rfl (fun K hK => ?_) ?_
                ·
                  have z0 := hB_.out.cell 0 _ rfl; have y0 := hB_.out.free 0; have z1 := hB_.out.cell 1 _ rfl; have y1 := hB_.out.free 1; have z2 := hB_.out.cell 2 _ rfl; have y2 := hB_.out.free 2; have z3 := hB_.out.cell 3 _ rfl; have y3 := hB_.out.free 3; have z4 := hB_.out.cell 4 _ rfl; have y4 := hB_.out.free 4
                  go_simp
                  clear z0 y0 z1 y1 z2 y2 z3 y3 z4 y4
                  refine hK.out _ _ ?_ (fun hS4_ => ?_)
                  · exact (by first | with_reducible exact hS3_.set5 hN_.out _ _ _ _ _ | with_reducible exact AwS.alloc (by assumption) _)
                  clear hK
                  as_aux_lemma =>
                    refine wpAnyH_take (i := 10) (oi := ⟨some 13, _, _, _, _, _⟩) (v := ?_) rfl (by kernel_rfl) (by kernel_rfl) (by kernel_rfl) (fun _ _ _ h => h) (Or.inl ⟨by rfl, ?_⟩) hS4_ ?_
                    rotate_left
                    · (intro w_ hSw_; first | (go_simp; done) | (go_simp; with_reducible rfl))
                    try simp only [Act.put, List.setIfInBounds_toArray, List.set_cons_zero, List.set_cons_succ]
                    refine wpAnyH_take (i := 11) (oi := ⟨some 14, _, _, _, _, _⟩) (v := ?_) rfl (by kernel_rfl) (by kernel_rfl) (by kernel_rfl) (fun _ _ _ h => h) (Or.inl ⟨by rfl, ?_⟩) hS4_ ?_
                    rotate_left
                    · (intro w_ hSw_; first | (go_simp; done) | (go_simp; with_reducible rfl))
                    try simp only [Act.put, List.setIfInBounds_toArray, List.set_cons_zero, List.set_cons_succ]
                    refine wpAnyH_done (by kernel_rfl) ?_ _
                    refine hK_ _ _ (Met.intro (hJ_ _ _ ?_))
                    (repeat apply Exists.intro)
                    refine ⟨?_, rfl⟩
                    exact ⟨_, rfl, rfl, rfl, ⟨hS4_.add hN_.out.2 (by first | with_reducible exact Blk.new _ _ | with_reducible exact set5_blk hB_.out _ _ _ _ _)⟩⟩
                exact AllReadyH.nil
            exact AllReadyH.nil
        exact AllReadyH.nil
    exact AllReadyH.nil
  case rest =>
  clear AW
  obtain ⟨b12, rfl, rfl, rfl, AW⟩ := hcut
  go_wp2
  go_cut [15, 16, 17] (fun v15 v16 v17 w' => ∃ b15 : Nat, v15 = .pointer (some ⟨b15, 0, none⟩) ∧ v16 = .slice none 0 0 ∧ v17 = .int .i64 10 ∧ Aside (AwS w [(b15, #[.int .i64 0, .string ⟨#[]⟩, .int .i64 0, .int .i64 0, .int .i64 0], 44), (b12, #[.int .i64 0, .string ⟨#[]⟩, .int .i64 0, .int .i64 0, .int .i64 0], 44), (b9, #[.int .i64 0, .string ⟨#[68]⟩, .int .i64 1, .int .i64 100, .int .i64 0], 44), (b6, #[.int .i64 0, .string ⟨#[70]⟩, .int .i64 1, .int .i64 120, .int .i64 2], 44), (q, #[.string ⟨#[102, 97, 105, 108, 101, 100]⟩], 9), (b3, #[.int .i64 0, .string ⟨#[82]⟩, .int .i64 1, .int .i64 120, .int .i64 0], 44)] w'))
  case first =>
    rename_i J_ K_ hJ_ hK_
    refine wp_region_held_drew (S := AwS w [(b12, #[.int .i64 0, .string ⟨#[]⟩, .int .i64 0, .int .i64 0, .int .i64 0], 44), (b9, #[.int .i64 0, .string ⟨#[68]⟩, .int .i64 1, .int .i64 100, .int .i64 0], 44), (b6, #[.int .i64 0, .string ⟨#[70]⟩, .int .i64 1, .int .i64 120, .int .i64 2], 44), (q, #[.string ⟨#[102, 97, 105, 108, 101, 100]⟩], 9), (b3, #[.int .i64 0, .string ⟨#[82]⟩, .int .i64 1, .int .i64 120, .int .i64 0], 44)]) (by kernel_rfl) AW.out.drew (fun hS0_ => ?_)
    generalize wc.drew = Wd_ at hS0_ ⊢
    refine' wpAnyH_take (i := 1) (oi := ⟨some 65, _, _, _, _, _⟩) (v := _) rfl (by kernel_rfl) (by kernel_rfl) (by kernel_rfl) (fun _ _ _ h => h) (yields_blk (S := AwS w [(b12, #[.int .i64 0, .string ⟨#[]⟩, .int .i64 0, .int .i64 0, .int .i64 0], 44), (b9, #[.int .i64 0, .string ⟨#[68]⟩, .int .i64 1, .int .i64 100, .int .i64 0], 44), (b6, #[.int .i64 0, .string ⟨#[70]⟩, .int .i64 1, .int .i64 120, .int .i64 2], 44), (q, #[.string ⟨#[102, 97, 105, 108, 101, 100]⟩], 9), (b3, #[.int .i64 0, .string ⟨#[82]⟩, .int .i64 1, .int .i64 120, .int .i64 0], 44)]) (w.heap.size + 1) 42 _ (mcs (M0 w.heap.size)) 42 _ (by rfl) (by rfl) (by rfl) (fun _ h_ => h_.msg) Try.underlying42 rfl (by kernel_rfl)) hS0_ ?_
    try simp only [Act.put, List.setIfInBounds_toArray, List.set_cons_zero, List.set_cons_succ]
    refine' wpAnyH_take (i := 2) (oi := ⟨some 66, _, _, _, _, _⟩) (v := _) rfl (by kernel_rfl) (by kernel_rfl) (by kernel_rfl) (fun _ _ _ h => h) (yields_blk (S := AwS w [(b12, #[.int .i64 0, .string ⟨#[]⟩, .int .i64 0, .int .i64 0, .int .i64 0], 44), (b9, #[.int .i64 0, .string ⟨#[68]⟩, .int .i64 1, .int .i64 100, .int .i64 0], 44), (b6, #[.int .i64 0, .string ⟨#[70]⟩, .int .i64 1, .int .i64 120, .int .i64 2], 44), (q, #[.string ⟨#[102, 97, 105, 108, 101, 100]⟩], 9), (b3, #[.int .i64 0, .string ⟨#[82]⟩, .int .i64 1, .int .i64 120, .int .i64 0], 44)]) (w.heap.size + 1 + 1) 44 _ #[.int .i64 0, .string ⟨#[82]⟩, .int .i64 0, .int .i64 100, .int .i64 0] 44 _ (by rfl) (by rfl) (by rfl) (fun _ h_ => h_.sta) Try.underlying44 rfl (by kernel_rfl)) hS0_ ?_
    try simp only [Act.put, List.setIfInBounds_toArray, List.set_cons_zero, List.set_cons_succ]
    as_aux_lemma =>
      refine wpAnyH_ready (rs := [0, 8]) (by kernel_rfl) (by simp) ?_
      refine AllReadyH.cons rfl (fun K hK => ?_) ?_
      ·
        go_simp
        go_wp2_with ((go_at_call 8; refine (usual_b _).mono ?_; rintro e w_ ⟨rfl, hb_⟩))
        refine hK.out _ _ ?_ (fun hS1_ => ?_)
        · exact (hS0_.next hb_)
        clear hK
        try (replace hB_ := Aside.mk (hB_.out.below hb_))
        clear hb_
        as_aux_lemma =>
          refine wpAnyH_ready (rs := [3, 8]) (by kernel_rfl) (by simp) ?_
          refine AllReadyH.cons rfl (fun K hK => ?_) ?_
          ·
            go_simp
            go_wp2_with ((go_at_call 7; refine (aw_E hS1_).mono ?_; rintro e w_ ⟨rfl, hb_⟩))
            refine hK.out _ _ ?_ (fun hS2_ => ?_)
            · exact (hS1_.next hb_)
            clear hK
            try (replace hB_ := Aside.mk (hB_.out.below hb_))
            clear hb_
            as_aux_lemma =>
              refine wpAnyH_take (i := 4) (oi := ⟨some 63, _, _, _, _, _⟩) (v := ?_) rfl (by kernel_rfl) (by kernel_rfl) (by kernel_rfl) (fun _ _ _ h => h) (Or.inl ⟨by rfl, ?_⟩) hS2_ ?_
              rotate_left
              · (intro w_ hSw_; first | (go_simp; done) | (go_simp; with_reducible rfl))
              try simp only [Act.put, List.setIfInBounds_toArray, List.set_cons_zero, List.set_cons_succ]
              refine wpAnyH_take (i := 5) (oi := ⟨some 68, _, _, _, _, _⟩) (v := ?_) rfl (by kernel_rfl) (by kernel_rfl) (by kernel_rfl) (fun _ _ _ h => h) (Or.inl ⟨by rfl, ?_⟩) hS2_ ?_
              rotate_left
              · (intro w_ hSw_; first | (go_simp; done) | (go_simp; with_reducible rfl))
              try simp only [Act.put, List.setIfInBounds_toArray, List.set_cons_zero, List.set_cons_succ]
              refine wpAnyH_take (i := 6) (oi := ⟨some 69, _, _, _, _, _⟩) (v := ?_) rfl (by kernel_rfl) (by kernel_rfl) (by kernel_rfl) (fun _ _ _ h => h) (Or.inl ⟨by rfl, ?_⟩) hS2_ ?_
              rotate_left
              · (intro w_ hSw_; first | (go_simp; done) | (go_simp; with_reducible rfl))
              try simp only [Act.put, List.setIfInBounds_toArray, List.set_cons_zero, List.set_cons_succ]
              refine wpAnyH_take (i := 7) (oi := ⟨some 70, _, _, _, _, _⟩) (v := ?_) rfl (by kernel_rfl) (by kernel_rfl) (by kernel_rfl) (fun _ _ _ h => h) (Or.inl ⟨by rfl, ?_⟩) hS2_ ?_
              rotate_left
              · (intro w_ hSw_; first | (go_simp; done) | (go_simp; with_reducible rfl))
              try simp only [Act.put, List.setIfInBounds_toArray, List.set_cons_zero, List.set_cons_succ]
              refine wpAnyH_ready (rs := [8]) (by kernel_rfl) (by simp) ?_
              refine AllReadyH.cons rfl (fun K hK => ?_) ?_
              ·
                have hN_ := Aside.mk hS2_.fresh
                have hB_ := Aside.mk hS2_.newb
                go_simp
                refine hK.out _ _ ?_ (fun hS3_ => ?_)
                · exact (hS2_.alloc _)
                clear hK
                as_aux_lemma =>
                  refine wpAnyH_ready (rs := [9]) (by kernel_rfl) (by simp) ?_
                  refine AllReadyH.cons rfl (fun K hK => ?_) ?_
                  ·
                    have z0 := hB_.out.cell 0 _ rfl; have y0 := hB_.out.free 0; have z1 := hB_.out.cell 1 _ rfl; have y1 := hB_.out.free 1; have z2 := hB_.out.cell 2 _ rfl; have y2 := hB_.out.free 2; have z3 := hB_.out.cell 3 _ rfl; have y3 := hB_.out.free 3; have z4 := hB_.out.cell 4 _ rfl; have y4 := hB_.out.free 4
                    go_simp
                    clear z0 y0 z1 y1 z2 y2 z3 y3 z4 y4
                    refine hK.out _ _ ?_ (fun hS4_ => ?_)
                    · exact (by first | with_reducible exact hS3_.set5 hN_.out _ _ _ _ _ | with_reducible exact AwS.alloc (by assumption) _)
                    clear hK
                    as_aux_lemma =>
                      refine wpAnyH_take (i := 10) (oi := ⟨some 16, _, _, _, _, _⟩) (v := ?_) rfl (by kernel_rfl) (by kernel_rfl) (by kernel_rfl) (fun _ _ _ h => h) (Or.inl ⟨by rfl, ?_⟩) hS4_ ?_
                      rotate_left
                      · (intro w_ hSw_; first | (go_simp; done) | (go_simp; with_reducible rfl))
                      try simp only [Act.put, List.setIfInBounds_toArray, List.set_cons_zero, List.set_cons_succ]
                      refine wpAnyH_take (i := 11) (oi := ⟨some 17, _, _, _, _, _⟩) (v := ?_) rfl (by kernel_rfl) (by kernel_rfl) (by kernel_rfl) (fun _ _ _ h => h) (Or.inl ⟨by rfl, ?_⟩) hS4_ ?_
                      rotate_left
                      · (intro w_ hSw_; first | (go_simp; done) | (go_simp; with_reducible rfl))
                      try simp only [Act.put, List.setIfInBounds_toArray, List.set_cons_zero, List.set_cons_succ]
                      refine wpAnyH_done (by kernel_rfl) ?_ _
                      refine hK_ _ _ (Met.intro (hJ_ _ _ ?_))
                      (repeat apply Exists.intro)
                      refine ⟨?_, rfl⟩
                      exact ⟨_, rfl, rfl, rfl, ⟨hS4_.add hN_.out.2 (by first | with_reducible exact Blk.new _ _ | with_reducible exact set5_blk hB_.out _ _ _ _ _)⟩⟩
                  exact AllReadyH.nil
              exact AllReadyH.nil
          refine AllReadyH.cons rfl (fun K hK => ?_) ?_
          ·
            have hN_ := Aside.mk hS1_.fresh
            have hB_ := Aside.mk hS1_.newb
            go_simp
            refine hK.out _ _ ?_ (fun hS2_ => ?_)
            · exact (hS1_.alloc _)
            clear hK
            as_aux_lemma =>
              refine wpAnyH_ready (rs := [3]) (by kernel_rfl) (by simp) ?_
              refine AllReadyH.cons rfl (fun K hK => ?_) ?_
              ·
                go_simp
                go_wp2_with ((go_at_call 7; refine (aw_E hS2_).mono ?_; rintro e w_ ⟨rfl, hb_⟩))
                refine hK.out _ _ ?_ (fun hS3_ => ?_)
                · exact (hS2_.next hb_)
                clear hK
                try (replace hB_ := Aside.mk (hB_.out.below hb_))
                clear hb_
                as_aux_lemma =>
                  refine wpAnyH_take (i := 4) (oi := ⟨some 63, _, _, _, _, _⟩) (v := ?_) rfl (by kernel_rfl) (by kernel_rfl) (by kernel_rfl) (fun _ _ _ h => h) (Or.inl ⟨by rfl, ?_⟩) hS3_ ?_
                  rotate_left
                  · (intro w_ hSw_; first | (go_simp; done) | (go_simp; with_reducible rfl))
                  try simp only [Act.put, List.setIfInBounds_toArray, List.set_cons_zero, List.set_cons_succ]
                  refine wpAnyH_take (i := 5) (oi := ⟨some 68, _, _, _, _, _⟩) (v := ?_) rfl (by kernel_rfl) (by kernel_rfl) (by kernel_rfl) (fun _ _ _ h => h) (Or.inl ⟨by rfl, ?_⟩) hS3_ ?_
                  rotate_left
                  · (intro w_ hSw_; first | (go_simp; done) | (go_simp; with_reducible rfl))
                  try simp only [Act.put, List.setIfInBounds_toArray, List.set_cons_zero, List.set_cons_succ]
                  as_aux_lemma =>
                    refine wpAnyH_take (i := 6) (oi := ⟨some 69, _, _, _, _, _⟩) (v := ?_) rfl (by kernel_rfl) (by kernel_rfl) (by kernel_rfl) (fun _ _ _ h => h) (Or.inl ⟨by rfl, ?_⟩) hS3_ ?_
                    rotate_left
                    · (intro w_ hSw_; first | (go_simp; done) | (go_simp; with_reducible rfl))
                    try simp only [Act.put, List.setIfInBounds_toArray, List.set_cons_zero, List.set_cons_succ]
                    refine wpAnyH_take (i := 7) (oi := ⟨some 70, _, _, _, _, _⟩) (v := ?_) rfl (by kernel_rfl) (by kernel_rfl) (by kernel_rfl) (fun _ _ _ h => h) (Or.inl ⟨by rfl, ?_⟩) hS3_ ?_
                    rotate_left
                    · (intro w_ hSw_; first | (go_simp; done) | (go_simp; with_reducible rfl))
                    try simp only [Act.put, List.setIfInBounds_toArray, List.set_cons_zero, List.set_cons_succ]
                    refine wpAnyH_ready (rs := [9]) (by kernel_rfl) (by simp) ?_
                    refine AllReadyH.cons rfl (fun K hK => ?_) ?_
                    ·
                      have z0 := hB_.out.cell 0 _ rfl; have y0 := hB_.out.free 0; have z1 := hB_.out.cell 1 _ rfl; have y1 := hB_.out.free 1; have z2 := hB_.out.cell 2 _ rfl; have y2 := hB_.out.free 2; have z3 := hB_.out.cell 3 _ rfl; have y3 := hB_.out.free 3; have z4 := hB_.out.cell 4 _ rfl; have y4 := hB_.out.free 4
                      go_simp
                      clear z0 y0 z1 y1 z2 y2 z3 y3 z4 y4
                      refine hK.out _ _ ?_ (fun hS4_ => ?_)
                      · exact (by first | with_reducible exact hS3_.set5 hN_.out _ _ _ _ _ | with_reducible exact AwS.alloc (by assumption) _)
                      clear hK
                      as_aux_lemma =>
                        refine wpAnyH_take (i := 10) (oi := ⟨some 16, _, _, _, _, _⟩) (v := ?_) rfl (by kernel_rfl) (by kernel_rfl) (by kernel_rfl) (fun _ _ _ h => h) (Or.inl ⟨by rfl, ?_⟩) hS4_ ?_
                        rotate_left
                        · (intro w_ hSw_; first | (go_simp; done) | (go_simp; with_reducible rfl))
                        try simp only [Act.put, List.setIfInBounds_toArray, List.set_cons_zero, List.set_cons_succ]
                        refine wpAnyH_take (i := 11) (oi := ⟨some 17, _, _, _, _, _⟩) (v := ?_) rfl (by kernel_rfl) (by kernel_rfl) (by kernel_rfl) (fun _ _ _ h => h) (Or.inl ⟨by rfl, ?_⟩) hS4_ ?_
                        rotate_left
                        · (intro w_ hSw_; first | (go_simp; done) | (go_simp; with_reducible rfl))
                        try simp only [Act.put, List.setIfInBounds_toArray, List.set_cons_zero, List.set_cons_succ]
                        refine wpAnyH_done (by kernel_rfl) ?_ _
                        refine hK_ _ _ (Met.intro (hJ_ _ _ ?_))
                        (repeat apply Exists.intro)
                        refine ⟨?_, rfl⟩
                        exact ⟨_, rfl, rfl, rfl, ⟨hS4_.add hN_.out.2 (by first | with_reducible exact Blk.new _ _ | with_reducible exact set5_blk hB_.out _ _ _ _ _)⟩⟩
                    exact AllReadyH.nil
              exact AllReadyH.nil
          exact AllReadyH.nil
      refine AllReadyH.cons rfl (fun K hK => ?_) ?_
      ·
        have hN_ := Aside.mk hS0_.fresh
        have hB_ := Aside.mk hS0_.newb
        go_simp
        refine hK.out _ _ ?_ (fun hS1_ => ?_)
        · exact (hS0_.alloc _)
        clear hK
        as_aux_lemma =>
          refine wpAnyH_ready (rs := [0]) (by kernel_rfl) (by simp) ?_
          refine AllReadyH.cons rfl (fun K hK => ?_) ?_
          ·
            go_simp
            go_wp2_with ((go_at_call 8; refine (usual_b _).mono ?_; rintro e w_ ⟨rfl, hb_⟩))
            refine hK.out _ _ ?_ (fun hS2_ => ?_)
            · exact (hS1_.next hb_)
            clear hK
            try (replace hB_ := Aside.mk (hB_.out.below hb_))
            clear hb_
            as_aux_lemma =>
              refine wpAnyH_ready (rs := [3]) (by kernel_rfl) (by simp) ?_
              refine AllReadyH.cons rfl (fun K hK => ?_) ?_
              ·
                go_simp
                go_wp2_with ((go_at_call 7; refine (aw_E hS2_).mono ?_; rintro e w_ ⟨rfl, hb_⟩))
                refine hK.out _ _ ?_ (fun hS3_ => ?_)
                · exact (hS2_.next hb_)
                clear hK
                try (replace hB_ := Aside.mk (hB_.out.below hb_))
                clear hb_
                as_aux_lemma =>
                  refine wpAnyH_take (i := 4) (oi := ⟨some 63, _, _, _, _, _⟩) (v := ?_) rfl (by kernel_rfl) (by kernel_rfl) (by kernel_rfl) (fun _ _ _ h => h) (Or.inl ⟨by rfl, ?_⟩) hS3_ ?_
                  rotate_left
                  · (intro w_ hSw_; first | (go_simp; done) | (go_simp; with_reducible rfl))
                  try simp only [Act.put, List.setIfInBounds_toArray, List.set_cons_zero, List.set_cons_succ]
                  refine wpAnyH_take (i := 5) (oi := ⟨some 68, _, _, _, _, _⟩) (v := ?_) rfl (by kernel_rfl) (by kernel_rfl) (by kernel_rfl) (fun _ _ _ h => h) (Or.inl ⟨by rfl, ?_⟩) hS3_ ?_
                  rotate_left
                  · (intro w_ hSw_; first | (go_simp; done) | (go_simp; with_reducible rfl))
                  try simp only [Act.put, List.setIfInBounds_toArray, List.set_cons_zero, List.set_cons_succ]
                  refine wpAnyH_take (i := 6) (oi := ⟨some 69, _, _, _, _, _⟩) (v := ?_) rfl (by kernel_rfl) (by kernel_rfl) (by kernel_rfl) (fun _ _ _ h => h) (Or.inl ⟨by rfl, ?_⟩) hS3_ ?_
                  rotate_left
                  · (intro w_ hSw_; first | (go_simp; done) | (go_simp; with_reducible rfl))
                  try simp only [Act.put, List.setIfInBounds_toArray, List.set_cons_zero, List.set_cons_succ]
                  refine wpAnyH_take (i := 7) (oi := ⟨some 70, _, _, _, _, _⟩) (v := ?_) rfl (by kernel_rfl) (by kernel_rfl) (by kernel_rfl) (fun _ _ _ h => h) (Or.inl ⟨by rfl, ?_⟩) hS3_ ?_
                  rotate_left
                  · (intro w_ hSw_; first | (go_simp; done) | (go_simp; with_reducible rfl))
                  try simp only [Act.put, List.setIfInBounds_toArray, List.set_cons_zero, List.set_cons_succ]
                  as_aux_lemma =>
                    refine wpAnyH_ready (rs := [9]) (by kernel_rfl) (by simp) ?_
                    refine AllReadyH.cons rfl (fun K hK => ?_) ?_
                    ·
                      have z0 := hB_.out.cell 0 _ rfl; have y0 := hB_.out.free 0; have z1 := hB_.out.cell 1 _ rfl; have y1 := hB_.out.free 1; have z2 := hB_.out.cell 2 _ rfl; have y2 := hB_.out.free 2; have z3 := hB_.out.cell 3 _ rfl; have y3 := hB_.out.free 3; have z4 := hB_.out.cell 4 _ rfl; have y4 := hB_.out.free 4
                      go_simp
                      clear z0 y0 z1 y1 z2 y2 z3 y3 z4 y4
                      refine hK.out _ _ ?_ (fun hS4_ => ?_)
                      · exact (by first | with_reducible exact hS3_.set5 hN_.out _ _ _ _ _ | with_reducible exact AwS.alloc (by assumption) _)
                      clear hK
                      as_aux_lemma =>
                        refine wpAnyH_take (i := 10) (oi := ⟨some 16, _, _, _, _, _⟩) (v := ?_) rfl (by kernel_rfl) (by kernel_rfl) (by kernel_rfl) (fun _ _ _ h => h) (Or.inl ⟨by rfl, ?_⟩) hS4_ ?_
                        rotate_left
                        · (intro w_ hSw_; first | (go_simp; done) | (go_simp; with_reducible rfl))
                        try simp only [Act.put, List.setIfInBounds_toArray, List.set_cons_zero, List.set_cons_succ]
                        refine wpAnyH_take (i := 11) (oi := ⟨some 17, _, _, _, _, _⟩) (v := ?_) rfl (by kernel_rfl) (by kernel_rfl) (by kernel_rfl) (fun _ _ _ h => h) (Or.inl ⟨by rfl, ?_⟩) hS4_ ?_
                        rotate_left
                        · (intro w_ hSw_; first | (go_simp; done) | (go_simp; with_reducible rfl))
                        try simp only [Act.put, List.setIfInBounds_toArray, List.set_cons_zero, List.set_cons_succ]
                        refine wpAnyH_done (by kernel_rfl) ?_ _
                        refine hK_ _ _ (Met.intro (hJ_ _ _ ?_))
                        (repeat apply Exists.intro)
                        refine ⟨?_, rfl⟩
                        exact ⟨_, rfl, rfl, rfl, ⟨hS4_.add hN_.out.2 (by first | with_reducible exact Blk.new _ _ | with_reducible exact set5_blk hB_.out _ _ _ _ _)⟩⟩
                    exact AllReadyH.nil
              exact AllReadyH.nil
          exact AllReadyH.nil
      exact AllReadyH.nil
  case rest =>
  clear AW
  obtain ⟨b15, rfl, rfl, rfl, AW⟩ := hcut
  go_upto_region 8 with (fail)
  go_cut [18, 19, 20] (fun v18 v19 v20 w' => v19 = .slice none 0 0 ∧ v20 = .int .i64 1 ∧ Aside (AwS w [(b15, #[.int .i64 0, .string ⟨#[]⟩, .int .i64 0, .int .i64 0, .int .i64 0], 44), (b12, #[.int .i64 0, .string ⟨#[]⟩, .int .i64 0, .int .i64 0, .int .i64 0], 44), (b9, #[.int .i64 0, .string ⟨#[68]⟩, .int .i64 1, .int .i64 100, .int .i64 0], 44), (b6, #[.int .i64 0, .string ⟨#[70]⟩, .int .i64 1, .int .i64 120, .int .i64 2], 44), (q, #[.string ⟨#[102, 97, 105, 108, 101, 100]⟩], 9), (b3, #[.int .i64 0, .string ⟨#[82]⟩, .int .i64 1, .int .i64 120, .int .i64 0], 44)] w'))
  case first =>
    rename_i J_ K_ hJ_ hK_
    go_wp2_with (first
      | (with_reducible refine load_blk_g (w.heap.size + 1) 42 (by kernel_rfl) _ rfl rfl (mcs (M0 w.heap.size)) 42 _ AW.out.msg Try.underlying42 rfl (by kernel_rfl) ?_; simp only [Act.put, List.setIfInBounds_toArray, List.set_cons_zero, List.set_cons_succ])
      | (with_reducible refine load_blk_g (w.heap.size + 1 + 1) 44 (by kernel_rfl) _ rfl rfl #[.int .i64 0, .string ⟨#[82]⟩, .int .i64 0, .int .i64 100, .int .i64 0] 44 _ AW.out.sta Try.underlying44 rfl (by kernel_rfl) ?_; simp only [Act.put, List.setIfInBounds_toArray, List.set_cons_zero, List.set_cons_succ])
      | (go_at_call 9; refine (aw_F _).mono ?_; rintro e w_ ⟨rfl, hb_⟩; replace AW := Aside.mk (AW.out.next hb_); clear hb_))
    go_meet
    exact ⟨rfl, rfl, ⟨AW.out.alloc _⟩⟩
  case rest =>
  clear AW
  obtain ⟨rfl, rfl, AW⟩ := hcut
  go_wp2_with (first
    | (with_reducible refine load_blk_g (w.heap.size + 1) 42 (by kernel_rfl) _ rfl rfl (mcs (M0 w.heap.size)) 42 _ AW.out.msg Try.underlying42 rfl (by kernel_rfl) ?_; simp only [Act.put, List.setIfInBounds_toArray, List.set_cons_zero, List.set_cons_succ])
    | (go_at_call 10; refine (aw_dl _ _).mono ?_; rintro e w_ ⟨rfl, hb_⟩; replace AW := Aside.mk (AW.out.next hb_); clear hb_))
  obtain ⟨Wl_, hWl_⟩ : ∃ W : World, Aside (AwS w [(b15, #[.int .i64 0, .string ⟨#[]⟩, .int .i64 0, .int .i64 0, .int .i64 0], 44), (b12, #[.int .i64 0, .string ⟨#[]⟩, .int .i64 0, .int .i64 0, .int .i64 0], 44), (b9, #[.int .i64 0, .string ⟨#[68]⟩, .int .i64 1, .int .i64 100, .int .i64 0], 44), (b6, #[.int .i64 0, .string ⟨#[70]⟩, .int .i64 1, .int .i64 120, .int .i64 2], 44), (q, #[.string ⟨#[102, 97, 105, 108, 101, 100]⟩], 9), (b3, #[.int .i64 0, .string ⟨#[82]⟩, .int .i64 1, .int .i64 120, .int .i64 0], 44)] W) := ⟨_, AW⟩
  clear Wl_ hWl_
  refine wp_region_held_drew (S := AwS w [(b15, #[.int .i64 0, .string ⟨#[]⟩, .int .i64 0, .int .i64 0, .int .i64 0], 44), (b12, #[.int .i64 0, .string ⟨#[]⟩, .int .i64 0, .int .i64 0, .int .i64 0], 44), (b9, #[.int .i64 0, .string ⟨#[68]⟩, .int .i64 1, .int .i64 100, .int .i64 0], 44), (b6, #[.int .i64 0, .string ⟨#[70]⟩, .int .i64 1, .int .i64 120, .int .i64 2], 44), (q, #[.string ⟨#[102, 97, 105, 108, 101, 100]⟩], 9), (b3, #[.int .i64 0, .string ⟨#[82]⟩, .int .i64 1, .int .i64 120, .int .i64 0], 44)]) (by kernel_rfl) AW.out.drew (fun hS0_ => ?_)
  refine wpAnyH_take (i := 0) (oi := ⟨some 84, _, _, _, _, _⟩) (v := ?_) rfl (by kernel_rfl) (by kernel_rfl) (by kernel_rfl) (fun _ _ _ h => h) (Or.inl ⟨by rfl, ?_⟩) hS0_ ?_
  rotate_left
  · (intro w_ hSw_; first | (go_simp; done) | (go_simp; with_reducible rfl))
  try simp only [Act.put, List.setIfInBounds_toArray, List.set_cons_zero, List.set_cons_succ]
  refine wpAnyH_take (i := 1) (oi := ⟨some 85, _, _, _, _, _⟩) (v := ?_) rfl (by kernel_rfl) (by kernel_rfl) (by kernel_rfl) (fun _ _ _ h => h) (Or.inl ⟨by rfl, ?_⟩) hS0_ ?_
  rotate_left
  · (intro w_ hSw_; first | (go_simp; done) | (go_simp; with_reducible rfl))
  try simp only [Act.put, List.setIfInBounds_toArray, List.set_cons_zero, List.set_cons_succ]
  refine wpAnyH_take (i := 2) (oi := ⟨some 86, _, _, _, _, _⟩) (v := ?_) rfl (by kernel_rfl) (by kernel_rfl) (by kernel_rfl) (fun _ _ _ h => h) (Or.inl ⟨by rfl, ?_⟩) hS0_ ?_
  rotate_left
  · (intro w_ hSw_; first | (go_simp; done) | (go_simp; with_reducible rfl))
  try simp only [Act.put, List.setIfInBounds_toArray, List.set_cons_zero, List.set_cons_succ]
  refine' wpAnyH_take (i := 3) (oi := ⟨some 87, _, _, _, _, _⟩) (v := _) rfl (by kernel_rfl) (by kernel_rfl) (by kernel_rfl) (fun _ _ _ h => h) (yields_blk (S := AwS w [(b15, #[.int .i64 0, .string ⟨#[]⟩, .int .i64 0, .int .i64 0, .int .i64 0], 44), (b12, #[.int .i64 0, .string ⟨#[]⟩, .int .i64 0, .int .i64 0, .int .i64 0], 44), (b9, #[.int .i64 0, .string ⟨#[68]⟩, .int .i64 1, .int .i64 100, .int .i64 0], 44), (b6, #[.int .i64 0, .string ⟨#[70]⟩, .int .i64 1, .int .i64 120, .int .i64 2], 44), (q, #[.string ⟨#[102, 97, 105, 108, 101, 100]⟩], 9), (b3, #[.int .i64 0, .string ⟨#[82]⟩, .int .i64 1, .int .i64 120, .int .i64 0], 44)]) (b3) 44 _ #[.int .i64 0, .string ⟨#[82]⟩, .int .i64 1, .int .i64 120, .int .i64 0] 44 _ (by rfl) (by rfl) (by rfl) (fun _ h_ => (h_.own (b3, #[.int .i64 0, .string ⟨#[82]⟩, .int .i64 1, .int .i64 120, .int .i64 0], 44) (by simp)).2) Try.underlying44 rfl (by kernel_rfl)) hS0_ ?_
  try simp only [Act.put, List.setIfInBounds_toArray, List.set_cons_zero, List.set_cons_succ]
  refine wpAnyH_take (i := 4) (oi := ⟨some 88, _, _, _, _, _⟩) (v := ?_) rfl (by kernel_rfl) (by kernel_rfl) (by kernel_rfl) (fun _ _ _ h => h) (Or.inl ⟨by rfl, ?_⟩) hS0_ ?_
  rotate_left
  · (intro w_ hSw_; first | (go_simp; done) | (go_simp; with_reducible rfl))
  try simp only [Act.put, List.setIfInBounds_toArray, List.set_cons_zero, List.set_cons_succ]
  refine wpAnyH_take (i := 5) (oi := ⟨some 89, _, _, _, _, _⟩) (v := ?_) rfl (by kernel_rfl) (by kernel_rfl) (by kernel_rfl) (fun _ _ _ h => h) (Or.inl ⟨by rfl, ?_⟩) hS0_ ?_
  rotate_left
  · (intro w_ hSw_; first | (go_simp; done) | (go_simp; with_reducible rfl))
  try simp only [Act.put, List.setIfInBounds_toArray, List.set_cons_zero, List.set_cons_succ]
  as_aux_lemma =>
    refine wpAnyH_take (i := 6) (oi := ⟨some 90, _, _, _, _, _⟩) (v := ?_) rfl (by kernel_rfl) (by kernel_rfl) (by kernel_rfl) (fun _ _ _ h => h) (Or.inl ⟨by rfl, ?_⟩) hS0_ ?_
    rotate_left
    · (intro w_ hSw_; first | (go_simp; done) | (go_simp; with_reducible rfl))
    try simp only [Act.put, List.setIfInBounds_toArray, List.set_cons_zero, List.set_cons_succ]
    refine wpAnyH_take (i := 7) (oi := ⟨some 91, _, _, _, _, _⟩) (v := ?_) rfl (by kernel_rfl) (by kernel_rfl) (by kernel_rfl) (fun _ _ _ h => h) (Or.inl ⟨by rfl, ?_⟩) hS0_ ?_
    rotate_left
    · (intro w_ hSw_; first | (go_simp; done) | (go_simp; with_reducible rfl))
    try simp only [Act.put, List.setIfInBounds_toArray, List.set_cons_zero, List.set_cons_succ]
    refine wpAnyH_take (i := 8) (oi := ⟨some 92, _, _, _, _, _⟩) (v := ?_) rfl (by kernel_rfl) (by kernel_rfl) (by kernel_rfl) (fun _ _ _ h => h) (Or.inl ⟨by rfl, ?_⟩) hS0_ ?_
    rotate_left
    · (intro w_ hSw_; first | (go_simp; done) | (go_simp; with_reducible rfl))
    try simp only [Act.put, List.setIfInBounds_toArray, List.set_cons_zero, List.set_cons_succ]
    refine wpAnyH_take (i := 9) (oi := ⟨some 93, _, _, _, _, _⟩) (v := ?_) rfl (by kernel_rfl) (by kernel_rfl) (by kernel_rfl) (fun _ _ _ h => h) (Or.inl ⟨by rfl, ?_⟩) hS0_ ?_
    rotate_left
    · (intro w_ hSw_; first | (go_simp; done) | (go_simp; with_reducible rfl))
    try simp only [Act.put, List.setIfInBounds_toArray, List.set_cons_zero, List.set_cons_succ]
    refine wpAnyH_take (i := 10) (oi := ⟨some 94, _, _, _, _, _⟩) (v := ?_) rfl (by kernel_rfl) (by kernel_rfl) (by kernel_rfl) (fun _ _ _ h => h) (Or.inl ⟨by rfl, ?_⟩) hS0_ ?_
    rotate_left
    · (intro w_ hSw_; first | (go_simp; done) | (go_simp; with_reducible rfl))
    try simp only [Act.put, List.setIfInBounds_toArray, List.set_cons_zero, List.set_cons_succ]
    refine wpAnyH_take (i := 11) (oi := ⟨some 95, _, _, _, _, _⟩) (v := ?_) rfl (by kernel_rfl) (by kernel_rfl) (by kernel_rfl) (fun _ _ _ h => h) (Or.inl ⟨by rfl, ?_⟩) hS0_ ?_
    rotate_left
    · (intro w_ hSw_; first | (go_simp; done) | (go_simp; with_reducible rfl))
    try simp only [Act.put, List.setIfInBounds_toArray, List.set_cons_zero, List.set_cons_succ]
    refine wpAnyH_take (i := 12) (oi := ⟨some 96, _, _, _, _, _⟩) (v := ?_) rfl (by kernel_rfl) (by kernel_rfl) (by kernel_rfl) (fun _ _ _ h => h) (Or.inl ⟨by rfl, ?_⟩) hS0_ ?_
    rotate_left
    · (intro w_ hSw_; first | (go_simp; done) | (go_simp; with_reducible rfl))
    try simp only [Act.put, List.setIfInBounds_toArray, List.set_cons_zero, List.set_cons_succ]
    refine wpAnyH_take (i := 13) (oi := ⟨some 97, _, _, _, _, _⟩) (v := ?_) rfl (by kernel_rfl) (by kernel_rfl) (by kernel_rfl) (fun _ _ _ h => h) (Or.inl ⟨by rfl, ?_⟩) hS0_ ?_
    rotate_left
    · (intro w_ hSw_; first | (go_simp; done) | (go_simp; with_reducible rfl))
    try simp only [Act.put, List.setIfInBounds_toArray, List.set_cons_zero, List.set_cons_succ]
    as_aux_lemma =>
      refine wpAnyH_take (i := 14) (oi := ⟨some 98, _, _, _, _, _⟩) (v := ?_) rfl (by kernel_rfl) (by kernel_rfl) (by kernel_rfl) (fun _ _ _ h => h) (Or.inl ⟨by rfl, ?_⟩) hS0_ ?_
      rotate_left
      · (intro w_ hSw_; first | (go_simp; done) | (go_simp; with_reducible rfl))
      try simp only [Act.put, List.setIfInBounds_toArray, List.set_cons_zero, List.set_cons_succ]
      refine wpAnyH_take (i := 15) (oi := ⟨some 99, _, _, _, _, _⟩) (v := ?_) rfl (by kernel_rfl) (by kernel_rfl) (by kernel_rfl) (fun _ _ _ h => h) (Or.inl ⟨by rfl, ?_⟩) hS0_ ?_
      rotate_left
      · (intro w_ hSw_; first | (go_simp; done) | (go_simp; with_reducible rfl))
      try simp only [Act.put, List.setIfInBounds_toArray, List.set_cons_zero, List.set_cons_succ]
      refine wpAnyH_take (i := 16) (oi := ⟨some 100, _, _, _, _, _⟩) (v := ?_) rfl (by kernel_rfl) (by kernel_rfl) (by kernel_rfl) (fun _ _ _ h => h) (Or.inl ⟨by rfl, ?_⟩) hS0_ ?_
      rotate_left
      · (intro w_ hSw_; first | (go_simp; done) | (go_simp; with_reducible rfl))
      try simp only [Act.put, List.setIfInBounds_toArray, List.set_cons_zero, List.set_cons_succ]
      refine wpAnyH_take (i := 17) (oi := ⟨some 101, _, _, _, _, _⟩) (v := ?_) rfl (by kernel_rfl) (by kernel_rfl) (by kernel_rfl) (fun _ _ _ h => h) (Or.inl ⟨by rfl, ?_⟩) hS0_ ?_
      rotate_left
      · (intro w_ hSw_; first | (go_simp; done) | (go_simp; with_reducible rfl))
      try simp only [Act.put, List.setIfInBounds_toArray, List.set_cons_zero, List.set_cons_succ]
      refine wpAnyH_take (i := 18) (oi := ⟨some 102, _, _, _, _, _⟩) (v := ?_) rfl (by kernel_rfl) (by kernel_rfl) (by kernel_rfl) (fun _ _ _ h => h) (Or.inl ⟨by rfl, ?_⟩) hS0_ ?_
      rotate_left
      · (intro w_ hSw_; have hc_ := (hSw_.own (b6, #[.int .i64 0, .string ⟨#[70]⟩, .int .i64 1, .int .i64 120, .int .i64 2], 44) (by simp)).2.cell 1 _ rfl; first | (go_simp; done) | (go_simp; with_reducible rfl))
      try simp only [Act.put, List.setIfInBounds_toArray, List.set_cons_zero, List.set_cons_succ]
      refine wpAnyH_take (i := 19) (oi := ⟨some 103, _, _, _, _, _⟩) (v := ?_) rfl (by kernel_rfl) (by kernel_rfl) (by kernel_rfl) (fun _ _ _ h => h) (Or.inl ⟨by rfl, ?_⟩) hS0_ ?_
      rotate_left
      · (intro w_ hSw_; first | (go_simp; done) | (go_simp; with_reducible rfl))
      try simp only [Act.put, List.setIfInBounds_toArray, List.set_cons_zero, List.set_cons_succ]
      refine wpAnyH_take (i := 20) (oi := ⟨some 104, _, _, _, _, _⟩) (v := ?_) rfl (by kernel_rfl) (by kernel_rfl) (by kernel_rfl) (fun _ _ _ h => h) (Or.inl ⟨by rfl, ?_⟩) hS0_ ?_
      rotate_left
      · (intro w_ hSw_; first | (go_simp; done) | (go_simp; with_reducible rfl))
      try simp only [Act.put, List.setIfInBounds_toArray, List.set_cons_zero, List.set_cons_succ]
      refine wpAnyH_take (i := 21) (oi := ⟨some 105, _, _, _, _, _⟩) (v := ?_) rfl (by kernel_rfl) (by kernel_rfl) (by kernel_rfl) (fun _ _ _ h => h) (Or.inl ⟨by rfl, ?_⟩) hS0_ ?_
      rotate_left
      · (intro w_ hSw_; first | (go_simp; done) | (go_simp; with_reducible rfl))
      try simp only [Act.put, List.setIfInBounds_toArray, List.set_cons_zero, List.set_cons_succ]
      as_aux_lemma =>
        refine wpAnyH_take (i := 22) (oi := ⟨some 106, _, _, _, _, _⟩) (v := ?_) rfl (by kernel_rfl) (by kernel_rfl) (by kernel_rfl) (fun _ _ _ h => h) (Or.inl ⟨by rfl, ?_⟩) hS0_ ?_
        rotate_left
        · (intro w_ hSw_; first | (go_simp; done) | (go_simp; with_reducible rfl))
        try simp only [Act.put, List.setIfInBounds_toArray, List.set_cons_zero, List.set_cons_succ]
        refine wpAnyH_take (i := 23) (oi := ⟨some 107, _, _, _, _, _⟩) (v := ?_) rfl (by kernel_rfl) (by kernel_rfl) (by kernel_rfl) (fun _ _ _ h => h) (Or.inl ⟨by rfl, ?_⟩) hS0_ ?_
        rotate_left
        · (intro w_ hSw_; have hc_ := (hSw_.own (b6, #[.int .i64 0, .string ⟨#[70]⟩, .int .i64 1, .int .i64 120, .int .i64 2], 44) (by simp)).2.cell 4 _ rfl; first | (go_simp; done) | (go_simp; with_reducible rfl))
        try simp only [Act.put, List.setIfInBounds_toArray, List.set_cons_zero, List.set_cons_succ]
        refine wpAnyH_take (i := 24) (oi := ⟨some 108, _, _, _, _, _⟩) (v := ?_) rfl (by kernel_rfl) (by kernel_rfl) (by kernel_rfl) (fun _ _ _ h => h) (Or.inl ⟨by rfl, ?_⟩) hS0_ ?_
        rotate_left
        · (intro w_ hSw_; first | (go_simp; done) | (go_simp; with_reducible rfl))
        try simp only [Act.put, List.setIfInBounds_toArray, List.set_cons_zero, List.set_cons_succ]
        refine wpAnyH_take (i := 25) (oi := ⟨some 109, _, _, _, _, _⟩) (v := ?_) rfl (by kernel_rfl) (by kernel_rfl) (by kernel_rfl) (fun _ _ _ h => h) (Or.inl ⟨by rfl, ?_⟩) hS0_ ?_
        rotate_left
        · (intro w_ hSw_; first | (go_simp; done) | (go_simp; with_reducible rfl))
        try simp only [Act.put, List.setIfInBounds_toArray, List.set_cons_zero, List.set_cons_succ]
        refine wpAnyH_take (i := 26) (oi := ⟨some 110, _, _, _, _, _⟩) (v := ?_) rfl (by kernel_rfl) (by kernel_rfl) (by kernel_rfl) (fun _ _ _ h => h) (Or.inl ⟨by rfl, ?_⟩) hS0_ ?_
        rotate_left
        · (intro w_ hSw_; first | (go_simp; done) | (go_simp; with_reducible rfl))
        try simp only [Act.put, List.setIfInBounds_toArray, List.set_cons_zero, List.set_cons_succ]
        refine wpAnyH_take (i := 27) (oi := ⟨some 111, _, _, _, _, _⟩) (v := ?_) rfl (by kernel_rfl) (by kernel_rfl) (by kernel_rfl) (fun _ _ _ h => h) (Or.inl ⟨by rfl, ?_⟩) hS0_ ?_
        rotate_left
        · (intro w_ hSw_; first | (go_simp; done) | (go_simp; with_reducible rfl))
        try simp only [Act.put, List.setIfInBounds_toArray, List.set_cons_zero, List.set_cons_succ]
        refine wpAnyH_ready (rs := [28]) (by kernel_rfl) (by simp) ?_
        refine AllReadyH.cons rfl (fun K hK => ?_) ?_
        ·
          go_simp
          refine hK.out _ _ ?_ (fun hS1_ => ?_)
          · exact (hS0_.alloc _)
          clear hK
          as_aux_lemma =>
            refine wpAnyH_ready (rs := [29]) (by kernel_rfl) (by simp) ?_
            refine AllReadyH.cons rfl (fun K hK => ?_) ?_
            ·
              go_simp
              go_wp2_with ((go_at_call 11; refine (same_one ⟨#[102, 97, 105, 108, 101, 100]⟩ q _ 9 9 _ (hS1_.own (q, #[.string ⟨#[102, 97, 105, 108, 101, 100]⟩], 9) (by simp)).2 (Blk.new _ _)).mono ?_; rintro e w_ ⟨rfl, hb_⟩))
              refine hK.out _ _ ?_ (fun hS2_ => ?_)
              · exact (hS1_.next hb_)
              clear hK
              as_aux_lemma =>
                refine wpAnyH_take (i := 30) (oi := ⟨some 114, _, _, _, _, _⟩) (v := ?_) rfl (by kernel_rfl) (by kernel_rfl) (by kernel_rfl) (fun _ _ _ h => h) (Or.inl ⟨by rfl, ?_⟩) hS2_ ?_
                rotate_left
                · (intro w_ hSw_; first | (go_simp; done) | (go_simp; with_reducible rfl))
                try simp only [Act.put, List.setIfInBounds_toArray, List.set_cons_zero, List.set_cons_succ]
                refine wpAnyH_take (i := 31) (oi := ⟨some 115, _, _, _, _, _⟩) (v := ?_) rfl (by kernel_rfl) (by kernel_rfl) (by kernel_rfl) (fun _ _ _ h => h) (Or.inl ⟨by rfl, ?_⟩) hS2_ ?_
                rotate_left
                · (intro w_ hSw_; first | (go_simp; done) | (go_simp; with_reducible rfl))
                try simp only [Act.put, List.setIfInBounds_toArray, List.set_cons_zero, List.set_cons_succ]
                as_aux_lemma =>
                  refine wpAnyH_take (i := 32) (oi := ⟨some 116, _, _, _, _, _⟩) (v := ?_) rfl (by kernel_rfl) (by kernel_rfl) (by kernel_rfl) (fun _ _ _ h => h) (Or.inl ⟨by rfl, ?_⟩) hS2_ ?_
                  rotate_left
                  · (intro w_ hSw_; first | (go_simp; done) | (go_simp; with_reducible rfl))
                  try simp only [Act.put, List.setIfInBounds_toArray, List.set_cons_zero, List.set_cons_succ]
                  refine wpAnyH_take (i := 33) (oi := ⟨some 117, _, _, _, _, _⟩) (v := ?_) rfl (by kernel_rfl) (by kernel_rfl) (by kernel_rfl) (fun _ _ _ h => h) (Or.inl ⟨by rfl, ?_⟩) hS2_ ?_
                  rotate_left
                  · (intro w_ hSw_; first | (go_simp; done) | (go_simp; with_reducible rfl))
                  try simp only [Act.put, List.setIfInBounds_toArray, List.set_cons_zero, List.set_cons_succ]
                  refine wpAnyH_take (i := 34) (oi := ⟨some 118, _, _, _, _, _⟩) (v := ?_) rfl (by kernel_rfl) (by kernel_rfl) (by kernel_rfl) (fun _ _ _ h => h) (Or.inl ⟨by rfl, ?_⟩) hS2_ ?_
                  rotate_left
                  · (intro w_ hSw_; first | (go_simp; done) | (go_simp; with_reducible rfl))
                  try simp only [Act.put, List.setIfInBounds_toArray, List.set_cons_zero, List.set_cons_succ]
                  refine wpAnyH_take (i := 35) (oi := ⟨some 119, _, _, _, _, _⟩) (v := ?_) rfl (by kernel_rfl) (by kernel_rfl) (by kernel_rfl) (fun _ _ _ h => h) (Or.inl ⟨by rfl, ?_⟩) hS2_ ?_
                  rotate_left
                  · (intro w_ hSw_; first | (go_simp; done) | (go_simp; with_reducible rfl))
                  try simp only [Act.put, List.setIfInBounds_toArray, List.set_cons_zero, List.set_cons_succ]
                  refine wpAnyH_take (i := 36) (oi := ⟨some 120, _, _, _, _, _⟩) (v := ?_) rfl (by kernel_rfl) (by kernel_rfl) (by kernel_rfl) (fun _ _ _ h => h) (Or.inl ⟨by rfl, ?_⟩) hS2_ ?_
                  rotate_left
                  · (intro w_ hSw_; first | (go_simp; done) | (go_simp; with_reducible rfl))
                  try simp only [Act.put, List.setIfInBounds_toArray, List.set_cons_zero, List.set_cons_succ]
                  refine wpAnyH_take (i := 37) (oi := ⟨some 121, _, _, _, _, _⟩) (v := ?_) rfl (by kernel_rfl) (by kernel_rfl) (by kernel_rfl) (fun _ _ _ h => h) (Or.inl ⟨by rfl, ?_⟩) hS2_ ?_
                  rotate_left
                  · (intro w_ hSw_; have hc_ := (hSw_.own (b9, #[.int .i64 0, .string ⟨#[68]⟩, .int .i64 1, .int .i64 100, .int .i64 0], 44) (by simp)).2.cell 1 _ rfl; first | (go_simp; done) | (go_simp; with_reducible rfl))
                  try simp only [Act.put, List.setIfInBounds_toArray, List.set_cons_zero, List.set_cons_succ]
                  refine wpAnyH_take (i := 38) (oi := ⟨some 122, _, _, _, _, _⟩) (v := ?_) rfl (by kernel_rfl) (by kernel_rfl) (by kernel_rfl) (fun _ _ _ h => h) (Or.inl ⟨by rfl, ?_⟩) hS2_ ?_
                  rotate_left
                  · (intro w_ hSw_; first | (go_simp; done) | (go_simp; with_reducible rfl))
                  try simp only [Act.put, List.setIfInBounds_toArray, List.set_cons_zero, List.set_cons_succ]
                  refine wpAnyH_take (i := 39) (oi := ⟨some 123, _, _, _, _, _⟩) (v := ?_) rfl (by kernel_rfl) (by kernel_rfl) (by kernel_rfl) (fun _ _ _ h => h) (Or.inl ⟨by rfl, ?_⟩) hS2_ ?_
                  rotate_left
                  · (intro w_ hSw_; first | (go_simp; done) | (go_simp; with_reducible rfl))
                  try simp only [Act.put, List.setIfInBounds_toArray, List.set_cons_zero, List.set_cons_succ]
                  as_aux_lemma =>
                    refine wpAnyH_take (i := 40) (oi := ⟨some 124, _, _, _, _, _⟩) (v := ?_) rfl (by kernel_rfl) (by kernel_rfl) (by kernel_rfl) (fun _ _ _ h => h) (Or.inl ⟨by rfl, ?_⟩) hS2_ ?_
                    rotate_left
                    · (intro w_ hSw_; first | (go_simp; done) | (go_simp; with_reducible rfl))
                    try simp only [Act.put, List.setIfInBounds_toArray, List.set_cons_zero, List.set_cons_succ]
                    refine wpAnyH_take (i := 41) (oi := ⟨some 125, _, _, _, _, _⟩) (v := ?_) rfl (by kernel_rfl) (by kernel_rfl) (by kernel_rfl) (fun _ _ _ h => h) (Or.inl ⟨by rfl, ?_⟩) hS2_ ?_
                    rotate_left
                    · (intro w_ hSw_; first | (go_simp; done) | (go_simp; with_reducible rfl))
                    try simp only [Act.put, List.setIfInBounds_toArray, List.set_cons_zero, List.set_cons_succ]
                    refine wpAnyH_take (i := 42) (oi := ⟨some 126, _, _, _, _, _⟩) (v := ?_) rfl (by kernel_rfl) (by kernel_rfl) (by kernel_rfl) (fun _ _ _ h => h) (Or.inl ⟨by rfl, ?_⟩) hS2_ ?_
                    rotate_left
                    · (intro w_ hSw_; first | (go_simp; done) | (go_simp; with_reducible rfl))
                    try simp only [Act.put, List.setIfInBounds_toArray, List.set_cons_zero, List.set_cons_succ]
                    refine wpAnyH_take (i := 43) (oi := ⟨some 127, _, _, _, _, _⟩) (v := ?_) rfl (by kernel_rfl) (by kernel_rfl) (by kernel_rfl) (fun _ _ _ h => h) (Or.inl ⟨by rfl, ?_⟩) hS2_ ?_
                    rotate_left
                    · (intro w_ hSw_; first | (go_simp; done) | (go_simp; with_reducible rfl))
                    try simp only [Act.put, List.setIfInBounds_toArray, List.set_cons_zero, List.set_cons_succ]
                    refine wpAnyH_take (i := 44) (oi := ⟨some 128, _, _, _, _, _⟩) (v := ?_) rfl (by kernel_rfl) (by kernel_rfl) (by kernel_rfl) (fun _ _ _ h => h) (Or.inl ⟨by rfl, ?_⟩) hS2_ ?_
                    rotate_left
                    · (intro w_ hSw_; first | (go_simp; done) | (go_simp; with_reducible rfl))
                    try simp only [Act.put, List.setIfInBounds_toArray, List.set_cons_zero, List.set_cons_succ]
                    refine wpAnyH_take (i := 45) (oi := ⟨some 129, _, _, _, _, _⟩) (v := ?_) rfl (by kernel_rfl) (by kernel_rfl) (by kernel_rfl) (fun _ _ _ h => h) (Or.inl ⟨by rfl, ?_⟩) hS2_ ?_
                    rotate_left
                    · (intro w_ hSw_; first | (go_simp; done) | (go_simp; with_reducible rfl))
                    try simp only [Act.put, List.setIfInBounds_toArray, List.set_cons_zero, List.set_cons_succ]
                    refine wpAnyH_take (i := 46) (oi := ⟨some 130, _, _, _, _, _⟩) (v := ?_) rfl (by kernel_rfl) (by kernel_rfl) (by kernel_rfl) (fun _ _ _ h => h) (Or.inl ⟨by rfl, ?_⟩) hS2_ ?_
                    rotate_left
                    · (intro w_ hSw_; first | (go_simp; done) | (go_simp; with_reducible rfl))
                    try simp only [Act.put, List.setIfInBounds_toArray, List.set_cons_zero, List.set_cons_succ]
                    refine wpAnyH_take (i := 47) (oi := ⟨some 131, _, _, _, _, _⟩) (v := ?_) rfl (by kernel_rfl) (by kernel_rfl) (by kernel_rfl) (fun _ _ _ h => h) (Or.inl ⟨by rfl, ?_⟩) hS2_ ?_
                    rotate_left
                    · (intro w_ hSw_; first | (go_simp; done) | (go_simp; with_reducible rfl))
                    try simp only [Act.put, List.setIfInBounds_toArray, List.set_cons_zero, List.set_cons_succ]
                    as_aux_lemma =>
                      refine wpAnyH_take (i := 48) (oi := ⟨some 132, _, _, _, _, _⟩) (v := ?_) rfl (by kernel_rfl) (by kernel_rfl) (by kernel_rfl) (fun _ _ _ h => h) (Or.inl ⟨by rfl, ?_⟩) hS2_ ?_
                      rotate_left
                      · (intro w_ hSw_; first | (go_simp; done) | (go_simp; with_reducible rfl))
                      try simp only [Act.put, List.setIfInBounds_toArray, List.set_cons_zero, List.set_cons_succ]
                      refine wpAnyH_take (i := 49) (oi := ⟨some 133, _, _, _, _, _⟩) (v := ?_) rfl (by kernel_rfl) (by kernel_rfl) (by kernel_rfl) (fun _ _ _ h => h) (Or.inl ⟨by rfl, ?_⟩) hS2_ ?_
                      rotate_left
                      · (intro w_ hSw_; first | (go_simp; done) | (go_simp; with_reducible rfl))
                      try simp only [Act.put, List.setIfInBounds_toArray, List.set_cons_zero, List.set_cons_succ]
                      refine wpAnyH_take (i := 50) (oi := ⟨some 134, _, _, _, _, _⟩) (v := ?_) rfl (by kernel_rfl) (by kernel_rfl) (by kernel_rfl) (fun _ _ _ h => h) (Or.inl ⟨by rfl, ?_⟩) hS2_ ?_
                      rotate_left
                      · (intro w_ hSw_; first | (go_simp; done) | (go_simp; with_reducible rfl))
                      try simp only [Act.put, List.setIfInBounds_toArray, List.set_cons_zero, List.set_cons_succ]
                      refine wpAnyH_take (i := 51) (oi := ⟨some 135, _, _, _, _, _⟩) (v := ?_) rfl (by kernel_rfl) (by kernel_rfl) (by kernel_rfl) (fun _ _ _ h => h) (Or.inl ⟨by rfl, ?_⟩) hS2_ ?_
                      rotate_left
                      · (intro w_ hSw_; first | (go_simp; done) | (go_simp; with_reducible rfl))
                      try simp only [Act.put, List.setIfInBounds_toArray, List.set_cons_zero, List.set_cons_succ]
                      refine wpAnyH_take (i := 52) (oi := ⟨some 136, _, _, _, _, _⟩) (v := ?_) rfl (by kernel_rfl) (by kernel_rfl) (by kernel_rfl) (fun _ _ _ h => h) (Or.inl ⟨by rfl, ?_⟩) hS2_ ?_
                      rotate_left
                      · (intro w_ hSw_; first | (go_simp; done) | (go_simp; with_reducible rfl))
                      try simp only [Act.put, List.setIfInBounds_toArray, List.set_cons_zero, List.set_cons_succ]
                      refine wpAnyH_take (i := 53) (oi := ⟨some 137, _, _, _, _, _⟩) (v := ?_) rfl (by kernel_rfl) (by kernel_rfl) (by kernel_rfl) (fun _ _ _ h => h) (Or.inl ⟨by rfl, ?_⟩) hS2_ ?_
                      rotate_left
                      · (intro w_ hSw_; first | (go_simp; done) | (go_simp; with_reducible rfl))
                      try simp only [Act.put, List.setIfInBounds_toArray, List.set_cons_zero, List.set_cons_succ]
                      refine wpAnyH_take (i := 54) (oi := ⟨some 138, _, _, _, _, _⟩) (v := ?_) rfl (by kernel_rfl) (by kernel_rfl) (by kernel_rfl) (fun _ _ _ h => h) (Or.inl ⟨by rfl, ?_⟩) hS2_ ?_
                      rotate_left
                      · (intro w_ hSw_; first | (go_simp; done) | (go_simp; with_reducible rfl))
                      try simp only [Act.put, List.setIfInBounds_toArray, List.set_cons_zero, List.set_cons_succ]
                      refine wpAnyH_take (i := 55) (oi := ⟨some 139, _, _, _, _, _⟩) (v := ?_) rfl (by kernel_rfl) (by kernel_rfl) (by kernel_rfl) (fun _ _ _ h => h) (Or.inl ⟨by rfl, ?_⟩) hS2_ ?_
                      rotate_left
                      · (intro w_ hSw_; first | (go_simp; done) | (go_simp; with_reducible rfl))
                      try simp only [Act.put, List.setIfInBounds_toArray, List.set_cons_zero, List.set_cons_succ]
                      as_aux_lemma =>
                        refine wpAnyH_take (i := 56) (oi := ⟨some 140, _, _, _, _, _⟩) (v := ?_) rfl (by kernel_rfl) (by kernel_rfl) (by kernel_rfl) (fun _ _ _ h => h) (Or.inl ⟨by rfl, ?_⟩) hS2_ ?_
                        rotate_left
                        · (intro w_ hSw_; first | (go_simp; done) | (go_simp; with_reducible rfl))
                        try simp only [Act.put, List.setIfInBounds_toArray, List.set_cons_zero, List.set_cons_succ]
                        refine wpAnyH_take (i := 57) (oi := ⟨some 141, _, _, _, _, _⟩) (v := ?_) rfl (by kernel_rfl) (by kernel_rfl) (by kernel_rfl) (fun _ _ _ h => h) (Or.inl ⟨by rfl, ?_⟩) hS2_ ?_
                        rotate_left
                        · (intro w_ hSw_; first | (go_simp; done) | (go_simp; with_reducible rfl))
                        try simp only [Act.put, List.setIfInBounds_toArray, List.set_cons_zero, List.set_cons_succ]
                        refine wpAnyH_take (i := 58) (oi := ⟨some 142, _, _, _, _, _⟩) (v := ?_) rfl (by kernel_rfl) (by kernel_rfl) (by kernel_rfl) (fun _ _ _ h => h) (Or.inl ⟨by rfl, ?_⟩) hS2_ ?_
                        rotate_left
                        · (intro w_ hSw_; first | (go_simp; done) | (go_simp; with_reducible rfl))
                        try simp only [Act.put, List.setIfInBounds_toArray, List.set_cons_zero, List.set_cons_succ]
                        refine wpAnyH_take (i := 59) (oi := ⟨some 143, _, _, _, _, _⟩) (v := ?_) rfl (by kernel_rfl) (by kernel_rfl) (by kernel_rfl) (fun _ _ _ h => h) (Or.inl ⟨by rfl, ?_⟩) hS2_ ?_
                        rotate_left
                        · (intro w_ hSw_; first | (go_simp; done) | (go_simp; with_reducible rfl))
                        try simp only [Act.put, List.setIfInBounds_toArray, List.set_cons_zero, List.set_cons_succ]
                        refine wpAnyH_take (i := 60) (oi := ⟨some 144, _, _, _, _, _⟩) (v := ?_) rfl (by kernel_rfl) (by kernel_rfl) (by kernel_rfl) (fun _ _ _ h => h) (Or.inl ⟨by rfl, ?_⟩) hS2_ ?_
                        rotate_left
                        · (intro w_ hSw_; first | (go_simp; done) | (go_simp; with_reducible rfl))
                        try simp only [Act.put, List.setIfInBounds_toArray, List.set_cons_zero, List.set_cons_succ]
                        refine wpAnyH_take (i := 61) (oi := ⟨some 145, _, _, _, _, _⟩) (v := ?_) rfl (by kernel_rfl) (by kernel_rfl) (by kernel_rfl) (fun _ _ _ h => h) (Or.inl ⟨by rfl, ?_⟩) hS2_ ?_
                        rotate_left
                        · (intro w_ hSw_; first | (go_simp; done) | (go_simp; with_reducible rfl))
                        try simp only [Act.put, List.setIfInBounds_toArray, List.set_cons_zero, List.set_cons_succ]
                        refine wpAnyH_take (i := 62) (oi := ⟨some 146, _, _, _, _, _⟩) (v := ?_) rfl (by kernel_rfl) (by kernel_rfl) (by kernel_rfl) (fun _ _ _ h => h) (Or.inl ⟨by rfl, ?_⟩) hS2_ ?_
                        rotate_left
                        · (intro w_ hSw_; first | (go_simp; done) | (go_simp; with_reducible rfl))
                        try simp only [Act.put, List.setIfInBounds_toArray, List.set_cons_zero, List.set_cons_succ]
                        refine wpAnyH_take (i := 63) (oi := ⟨some 147, _, _, _, _, _⟩) (v := ?_) rfl (by kernel_rfl) (by kernel_rfl) (by kernel_rfl) (fun _ _ _ h => h) (Or.inl ⟨by rfl, ?_⟩) hS2_ ?_
                        rotate_left
                        · (intro w_ hSw_; first | (go_simp; done) | (go_simp; with_reducible rfl))
                        try simp only [Act.put, List.setIfInBounds_toArray, List.set_cons_zero, List.set_cons_succ]
                        as_aux_lemma =>
                          refine wpAnyH_take (i := 64) (oi := ⟨some 148, _, _, _, _, _⟩) (v := ?_) rfl (by kernel_rfl) (by kernel_rfl) (by kernel_rfl) (fun _ _ _ h => h) (Or.inl ⟨by rfl, ?_⟩) hS2_ ?_
                          rotate_left
                          · (intro w_ hSw_; first | (go_simp; done) | (go_simp; with_reducible rfl))
                          try simp only [Act.put, List.setIfInBounds_toArray, List.set_cons_zero, List.set_cons_succ]
                          refine wpAnyH_ready (rs := [65]) (by kernel_rfl) (by simp) ?_
                          refine AllReadyH.cons rfl (fun K hK => ?_) ?_
                          ·
                            go_simp
                            go_wp2_with ((go_at_call 8; refine (usual_b _).mono ?_; rintro e w_ ⟨rfl, hb_⟩))
                            refine hK.out _ _ ?_ (fun hS3_ => ?_)
                            · exact (hS2_.next hb_)
                            clear hK
                            as_aux_lemma =>
                              refine wpAnyH_ready (rs := [66]) (by kernel_rfl) (by simp) ?_
                              refine AllReadyH.cons rfl (fun K hK => ?_) ?_
                              ·
                                go_simp
                                go_wp2_with ((go_at_call 6; refine (aw_wt _).mono ?_; rintro e w_ ⟨rfl, hb_⟩))
                                refine hK.out _ _ ?_ (fun hS4_ => ?_)
                                · exact (hS3_.next hb_)
                                clear hK
                                as_aux_lemma =>
                                  refine wpAnyH_take (i := 67) (oi := ⟨some 151, _, _, _, _, _⟩) (v := ?_) rfl (by kernel_rfl) (by kernel_rfl) (by kernel_rfl) (fun _ _ _ h => h) (Or.inl ⟨by rfl, ?_⟩) hS4_ ?_
                                  rotate_left
                                  · (intro w_ hSw_; first | (go_simp; done) | (go_simp; with_reducible rfl))
                                  try simp only [Act.put, List.setIfInBounds_toArray, List.set_cons_zero, List.set_cons_succ]
                                  refine wpAnyH_take (i := 68) (oi := ⟨some 152, _, _, _, _, _⟩) (v := ?_) rfl (by kernel_rfl) (by kernel_rfl) (by kernel_rfl) (fun _ _ _ h => h) (Or.inl ⟨by rfl, ?_⟩) hS4_ ?_
                                  rotate_left
                                  · (intro w_ hSw_; first | (go_simp; done) | (go_simp; with_reducible rfl))
                                  try simp only [Act.put, List.setIfInBounds_toArray, List.set_cons_zero, List.set_cons_succ]
                                  refine wpAnyH_take (i := 69) (oi := ⟨some 153, _, _, _, _, _⟩) (v := ?_) rfl (by kernel_rfl) (by kernel_rfl) (by kernel_rfl) (fun _ _ _ h => h) (Or.inl ⟨by rfl, ?_⟩) hS4_ ?_
                                  rotate_left
                                  · (intro w_ hSw_; first | (go_simp; done) | (go_simp; with_reducible rfl))
                                  try simp only [Act.put, List.setIfInBounds_toArray, List.set_cons_zero, List.set_cons_succ]
                                  refine' wpAnyH_take (i := 71) (oi := ⟨some 155, _, _, _, _, _⟩) (v := _) rfl (by kernel_rfl) (by kernel_rfl) (by kernel_rfl) (fun _ _ _ h => h) (yields_blk (S := AwS w [(b15, #[.int .i64 0, .string ⟨#[]⟩, .int .i64 0, .int .i64 0, .int .i64 0], 44), (b12, #[.int .i64 0, .string ⟨#[]⟩, .int .i64 0, .int .i64 0, .int .i64 0], 44), (b9, #[.int .i64 0, .string ⟨#[68]⟩, .int .i64 1, .int .i64 100, .int .i64 0], 44), (b6, #[.int .i64 0, .string ⟨#[70]⟩, .int .i64 1, .int .i64 120, .int .i64 2], 44), (q, #[.string ⟨#[102, 97, 105, 108, 101, 100]⟩], 9), (b3, #[.int .i64 0, .string ⟨#[82]⟩, .int .i64 1, .int .i64 120, .int .i64 0], 44)]) (w.heap.size + 1) 42 _ (mcs (M0 w.heap.size)) 42 _ (by rfl) (by rfl) (by rfl) (fun _ h_ => h_.msg) Try.underlying42 rfl (by kernel_rfl)) hS4_ ?_
                                  try simp only [Act.put, List.setIfInBounds_toArray, List.set_cons_zero, List.set_cons_succ]
                                  refine wpAnyH_ready (rs := [70]) (by kernel_rfl) (by simp) ?_
                                  refine AllReadyH.cons rfl (fun K hK => ?_) ?_
                                  ·
                                    go_simp
                                    go_wp2_with ((go_at_call 8; refine (usual_b _).mono ?_; rintro e w_ ⟨rfl, hb_⟩))
                                    refine hK.out _ _ ?_ (fun hS5_ => ?_)
                                    · exact (hS4_.next hb_)
                                    clear hK
                                    as_aux_lemma =>
                                      refine wpAnyH_ready (rs := [72]) (by kernel_rfl) (by simp) ?_
                                      refine AllReadyH.cons rfl (fun K hK => ?_) ?_
                                      ·
                                        go_simp
                                        go_wp2_with ((go_at_call 12; refine (aw_ex _ _).mono ?_; rintro e w_ ⟨rfl, hb_⟩))
                                        refine hK.out _ _ ?_ (fun hS6_ => ?_)
                                        · exact (hS5_.next hb_)
                                        clear hK
                                        as_aux_lemma =>
                                          refine wpAnyH_take (i := 73) (oi := ⟨some 157, _, _, _, _, _⟩) (v := ?_) rfl (by kernel_rfl) (by kernel_rfl) (by kernel_rfl) (fun _ _ _ h => h) (Or.inl ⟨by rfl, ?_⟩) hS6_ ?_
                                          rotate_left
                                          · (intro w_ hSw_; first | (go_simp; done) | (go_simp; with_reducible rfl))
                                          try simp only [Act.put, List.setIfInBounds_toArray, List.set_cons_zero, List.set_cons_succ]
                                          refine wpAnyH_take (i := 74) (oi := ⟨some 158, _, _, _, _, _⟩) (v := ?_) rfl (by kernel_rfl) (by kernel_rfl) (by kernel_rfl) (fun _ _ _ h => h) (Or.inl ⟨by rfl, ?_⟩) hS6_ ?_
                                          rotate_left
                                          · (intro w_ hSw_; first | (go_simp; done) | (go_simp; with_reducible rfl))
                                          try simp only [Act.put, List.setIfInBounds_toArray, List.set_cons_zero, List.set_cons_succ]
                                          refine wpAnyH_take (i := 75) (oi := ⟨some 159, _, _, _, _, _⟩) (v := ?_) rfl (by kernel_rfl) (by kernel_rfl) (by kernel_rfl) (fun _ _ _ h => h) (Or.inl ⟨by rfl, ?_⟩) hS6_ ?_
                                          rotate_left
                                          · (intro w_ hSw_; first | (go_simp; done) | (go_simp; with_reducible rfl))
                                          try simp only [Act.put, List.setIfInBounds_toArray, List.set_cons_zero, List.set_cons_succ]
                                          as_aux_lemma =>
                                            refine' wpAnyH_take (i := 77) (oi := ⟨some 161, _, _, _, _, _⟩) (v := _) rfl (by kernel_rfl) (by kernel_rfl) (by kernel_rfl) (fun _ _ _ h => h) (yields_blk (S := AwS w [(b15, #[.int .i64 0, .string ⟨#[]⟩, .int .i64 0, .int .i64 0, .int .i64 0], 44), (b12, #[.int .i64 0, .string ⟨#[]⟩, .int .i64 0, .int .i64 0, .int .i64 0], 44), (b9, #[.int .i64 0, .string ⟨#[68]⟩, .int .i64 1, .int .i64 100, .int .i64 0], 44), (b6, #[.int .i64 0, .string ⟨#[70]⟩, .int .i64 1, .int .i64 120, .int .i64 2], 44), (q, #[.string ⟨#[102, 97, 105, 108, 101, 100]⟩], 9), (b3, #[.int .i64 0, .string ⟨#[82]⟩, .int .i64 1, .int .i64 120, .int .i64 0], 44)]) (w.heap.size + 1) 42 _ (mcs (M0 w.heap.size)) 42 _ (by rfl) (by rfl) (by rfl) (fun _ h_ => h_.msg) Try.underlying42 rfl (by kernel_rfl)) hS6_ ?_
                                            try simp only [Act.put, List.setIfInBounds_toArray, List.set_cons_zero, List.set_cons_succ]
                                            refine' wpAnyH_take (i := 78) (oi := ⟨some 162, _, _, _, _, _⟩) (v := _) rfl (by kernel_rfl) (by kernel_rfl) (by kernel_rfl) (fun _ _ _ h => h) (yields_blk (S := AwS w [(b15, #[.int .i64 0, .string ⟨#[]⟩, .int .i64 0, .int .i64 0, .int .i64 0], 44), (b12, #[.int .i64 0, .string ⟨#[]⟩, .int .i64 0, .int .i64 0, .int .i64 0], 44), (b9, #[.int .i64 0, .string ⟨#[68]⟩, .int .i64 1, .int .i64 100, .int .i64 0], 44), (b6, #[.int .i64 0, .string ⟨#[70]⟩, .int .i64 1, .int .i64 120, .int .i64 2], 44), (q, #[.string ⟨#[102, 97, 105, 108, 101, 100]⟩], 9), (b3, #[.int .i64 0, .string ⟨#[82]⟩, .int .i64 1, .int .i64 120, .int .i64 0], 44)]) (b3) 44 _ #[.int .i64 0, .string ⟨#[82]⟩, .int .i64 1, .int .i64 120, .int .i64 0] 44 _ (by rfl) (by rfl) (by rfl) (fun _ h_ => (h_.own (b3, #[.int .i64 0, .string ⟨#[82]⟩, .int .i64 1, .int .i64 120, .int .i64 0], 44) (by simp)).2) Try.underlying44 rfl (by kernel_rfl)) hS6_ ?_
                                            try simp only [Act.put, List.setIfInBounds_toArray, List.set_cons_zero, List.set_cons_succ]
                                            refine wpAnyH_ready (rs := [76]) (by kernel_rfl) (by simp) ?_
                                            refine AllReadyH.cons rfl (fun K hK => ?_) ?_
                                            ·
                                              go_simp
                                              go_wp2_with ((go_at_call 8; refine (usual_b _).mono ?_; rintro e w_ ⟨rfl, hb_⟩))
                                              refine hK.out _ _ ?_ (fun hS7_ => ?_)
                                              · exact (hS6_.next hb_)
                                              clear hK
                                              as_aux_lemma =>
                                                refine wpAnyH_ready (rs := [79]) (by kernel_rfl) (by simp) ?_
                                                refine AllReadyH.cons rfl (fun K hK => ?_) ?_
                                                ·
                                                  go_simp
                                                  go_wp2_with ((go_at_call 13; refine (aw_al _ _).mono ?_; rintro e w_ ⟨rfl, hb_⟩))
                                                  refine hK.out _ _ ?_ (fun hS8_ => ?_)
                                                  · exact (hS7_.next hb_)
                                                  clear hK
                                                  as_aux_lemma =>
                                                    refine wpAnyH_take (i := 80) (oi := ⟨some 164, _, _, _, _, _⟩) (v := ?_) rfl (by kernel_rfl) (by kernel_rfl) (by kernel_rfl) (fun _ _ _ h => h) (Or.inl ⟨by rfl, ?_⟩) hS8_ ?_
                                                    rotate_left
                                                    · (intro w_ hSw_; first | (go_simp; done) | (go_simp; with_reducible rfl))
                                                    try simp only [Act.put, List.setIfInBounds_toArray, List.set_cons_zero, List.set_cons_succ]
                                                    refine wpAnyH_take (i := 81) (oi := ⟨some 165, _, _, _, _, _⟩) (v := ?_) rfl (by kernel_rfl) (by kernel_rfl) (by kernel_rfl) (fun _ _ _ h => h) (Or.inl ⟨by rfl, ?_⟩) hS8_ ?_
                                                    rotate_left
                                                    · (intro w_ hSw_; first | (go_simp; done) | (go_simp; with_reducible rfl))
                                                    try simp only [Act.put, List.setIfInBounds_toArray, List.set_cons_zero, List.set_cons_succ]
                                                    refine wpAnyH_take (i := 82) (oi := ⟨some 166, _, _, _, _, _⟩) (v := ?_) rfl (by kernel_rfl) (by kernel_rfl) (by kernel_rfl) (fun _ _ _ h => h) (Or.inl ⟨by rfl, ?_⟩) hS8_ ?_
                                                    rotate_left
                                                    · (intro w_ hSw_; first | (go_simp; done) | (go_simp; with_reducible rfl))
                                                    try simp only [Act.put, List.setIfInBounds_toArray, List.set_cons_zero, List.set_cons_succ]
                                                    refine wpAnyH_ready (rs := [83]) (by kernel_rfl) (by simp) ?_
                                                    refine AllReadyH.cons rfl (fun K hK => ?_) ?_
                                                    ·
                                                      go_simp
                                                      go_wp2_with ((go_at_call 8; refine (usual_b _).mono ?_; rintro e w_ ⟨rfl, hb_⟩))
                                                      refine hK.out _ _ ?_ (fun hS9_ => ?_)
                                                      · exact (hS8_.next hb_)
                                                      clear hK
                                                      as_aux_lemma =>
                                                        refine wpAnyH_ready (rs := [84]) (by kernel_rfl) (by simp) ?_
                                                        refine AllReadyH.cons rfl (fun K hK => ?_) ?_
                                                        ·
                                                          go_simp
                                                          go_wp2_with ((go_at_call 5; refine (aw_rt _).mono ?_; rintro e w_ ⟨rfl, hb_⟩))
                                                          refine hK.out _ _ ?_ (fun hS10_ => ?_)
                                                          · exact (hS9_.next hb_)
                                                          clear hK
                                                          as_aux_lemma =>
                                                            refine wpAnyH_take (i := 85) (oi := ⟨some 169, _, _, _, _, _⟩) (v := ?_) rfl (by kernel_rfl) (by kernel_rfl) (by kernel_rfl) (fun _ _ _ h => h) (Or.inl ⟨by rfl, ?_⟩) hS10_ ?_
                                                            rotate_left
                                                            · (intro w_ hSw_; first | (go_simp; done) | (go_simp; with_reducible rfl))
                                                            try simp only [Act.put, List.setIfInBounds_toArray, List.set_cons_zero, List.set_cons_succ]
                                                            refine wpAnyH_take (i := 86) (oi := ⟨some 170, _, _, _, _, _⟩) (v := ?_) rfl (by kernel_rfl) (by kernel_rfl) (by kernel_rfl) (fun _ _ _ h => h) (Or.inl ⟨by rfl, ?_⟩) hS10_ ?_
                                                            rotate_left
                                                            · (intro w_ hSw_; first | (go_simp; done) | (go_simp; with_reducible rfl))
                                                            try simp only [Act.put, List.setIfInBounds_toArray, List.set_cons_zero, List.set_cons_succ]
                                                            refine wpAnyH_take (i := 87) (oi := ⟨some 0, _, _, _, _, _⟩) (v := ?_) rfl (by kernel_rfl) (by kernel_rfl) (by kernel_rfl) (fun _ _ _ h => h) (Or.inl ⟨by rfl, ?_⟩) hS10_ ?_
                                                            rotate_left
                                                            · (intro w_ hSw_; first | (go_simp; done) | (go_simp; with_reducible rfl))
                                                            try simp only [Act.put, List.setIfInBounds_toArray, List.set_cons_zero, List.set_cons_succ]
                                                            as_aux_lemma =>
                                                              refine wpAnyH_done (by kernel_rfl) ?_ _
                                                              go_wp2
                                                              go_ret
                                                              exact ⟨rfl, hS10_.low⟩
                                                        exact AllReadyH.nil
                                                    exact AllReadyH.nil
                                                exact AllReadyH.nil
                                            exact AllReadyH.nil
                                      exact AllReadyH.nil
                                  exact AllReadyH.nil
                              exact AllReadyH.nil
                          exact AllReadyH.nil
            exact AllReadyH.nil
        exact AllReadyH.nil
end Go.Proofs.Ytojmcejkfeaccaa
