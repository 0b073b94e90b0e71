/-
  Walks of the package judge: judge.Try, case by case (no outcome; none that may be judged).
-/
import Derived.Test.YtojmcejkfeaccaaJdTry0
set_option linter.unusedVariables false
set_option linter.unusedSimpArgs false
namespace Go.Proofs.Ytojmcejkfeaccaa
open Go.RowKit JdLaw
set_option maxRecDepth 100000
set_option maxHeartbeats 4000000 in
theorem try_kind (b mo li wa : Int) (m : JdMsg.Msg) (pl : Nat) (st : ByteArray) (tr nx td now : Int) (nf : ByteArray) (ab ao : Nat) (w : World) (ec : Int)
    (hmay : ∀ W, Below w.heap.size w W → Calls Try.prog 14 #[.agg #[.int .i64 b, .int .i64 mo, .int .i64 li, .int .i64 wa], .agg (mcs m), .agg #[.int .i64 pl, .string st, .int .i64 tr, .int .i64 nx, .int .i64 td], .int .i64 now] W fun e w' => e = .returned (.int .i64 ec) ∧ Below W.heap.size W w') (oc : Int) (hec : ec = 0) (ht0 : 0 ≤ tr) (ht1 : tr ≤ 1000000) (q0 : ((oc : Int) == 0) = false) (q2 : ((oc : Int) == 2) = false) (q3 : ((oc : Int) == 3) = false) (q4 : ((oc : Int) == 4) = false) (q5 : ((oc : Int) == 5) = false) :
    Calls Try.prog 7 #[.agg #[.int .i64 b, .int .i64 mo, .int .i64 li, .int .i64 wa], .agg (mcs m), .agg #[.int .i64 pl, .string st, .int .i64 tr, .int .i64 nx, .int .i64 td], .int .i64 now, .int .i64 oc] w fun e w' => e = .returned (.tuple #[.agg #[.int .i64 0, .string ⟨#[]⟩, .int .i64 0, .int .i64 0, .int .i64 0], .slice none 0 0, .int .i64 10]) ∧ Below w.heap.size w w' := by
  subst hec
  have PW := Aside.mk (PassW.start w b mo li wa m pl st tr nx td)
  go_enter Try.func7, Try.ntmps7
  go_wp2_with (first
    | (with_reducible refine load_blk (w.heap.size) 23 rfl _ rfl rfl #[.int .i64 b, .int .i64 mo, .int .i64 li, .int .i64 wa] 23 _ PW.out.plan Try.underlying23 rfl (by kernel_rfl) ?_; simp only [Act.put, List.setIfInBounds_toArray, List.set_cons_zero, List.set_cons_succ])
    | (with_reducible refine load_blk (w.heap.size + 1) 42 rfl _ rfl rfl (mcs m) 42 _ PW.out.msg Try.underlying42 rfl (by kernel_rfl) ?_; simp only [Act.put, List.setIfInBounds_toArray, List.set_cons_zero, List.set_cons_succ])
    | (with_reducible refine load_blk (w.heap.size + 1 + 1) 44 rfl _ rfl rfl #[.int .i64 pl, .string st, .int .i64 tr, .int .i64 nx, .int .i64 td] 44 _ PW.out.sta Try.underlying44 rfl (by kernel_rfl) ?_; simp only [Act.put, List.setIfInBounds_toArray, List.set_cons_zero, List.set_cons_succ])
    | (go_at_call 14; refine (hmay _ PW.out.low).mono ?_; rintro e w1 ⟨rfl, hb1⟩; replace PW := Aside.mk (PW.out.next hb1); clear hb1; have PWT := Aside.mk (PW.out.setT (min (tr + 1) 1000)); have d0 := PW.out.res.cell 0 _ rfl; have d1 := PW.out.res.cell 1 _ rfl; have d2 := PW.out.res.cell 2 _ rfl; have d3 := PW.out.res.cell 3 _ rfl; have d4 := PW.out.res.cell 4 _ rfl; have e0 := PW.out.res.free 0; have e1 := PW.out.res.free 1; have e2 := PW.out.res.free 2; have e3 := PW.out.res.free 3; have e4 := PW.out.res.free 4; have s2 := PW.out.sta.cell 2 _ rfl; have s2f := PW.out.sta.free 2; have s3 := PW.out.sta.cell 3 _ rfl; have s3f := PW.out.sta.free 3))
  obtain ⟨f1, f2, f3⟩ := pass_end (v := .slice none 0 0) (kk := none) PWT.out.res PWT.out.res.lt rfl PWT.out.low (pl := 0) (s := ⟨#[]⟩) (tr := 0) (nx := 0) (td := 0)
  exact bodyPost_ret (results_cell_tt_row rfl _ _ (w.heap.size + 1 + 1 + 1) _ #[.int .i64 0, .string ⟨#[]⟩, .int .i64 0, .int .i64 0, .int .i64 0] _ rfl f1 Try.underlying44 rfl (by kernel_rfl)) rfl ⟨rfl, f3⟩
set_option maxHeartbeats 4000000 in
theorem try_bad (b mo li wa : Int) (m : JdMsg.Msg) (pl : Int) (st : ByteArray) (tr nx td now : Int) (w : World) (ec : Int)
    (hmay : ∀ W, Below w.heap.size w W → Calls Try.prog 14 #[.agg #[.int .i64 b, .int .i64 mo, .int .i64 li, .int .i64 wa], .agg (mcs m), .agg #[.int .i64 pl, .string st, .int .i64 tr, .int .i64 nx, .int .i64 td], .int .i64 now] W fun e w' => e = .returned (.int .i64 ec) ∧ Below W.heap.size W w') (oc : Int) (hec : Hid ((ec == 0) = false)) (hec2 : Hid ((ec != 0) = true)) :
    Calls Try.prog 7 #[.agg #[.int .i64 b, .int .i64 mo, .int .i64 li, .int .i64 wa], .agg (mcs m), .agg #[.int .i64 pl, .string st, .int .i64 tr, .int .i64 nx, .int .i64 td], .int .i64 now, .int .i64 oc] w fun e w' => e = .returned (.tuple #[.agg #[.int .i64 0, .string ⟨#[]⟩, .int .i64 0, .int .i64 0, .int .i64 0], .slice none 0 0, .int .i64 ec]) ∧ Below w.heap.size w w' := by
  have PW := Aside.mk (PassW.start w b mo li wa m pl st tr nx td)
  go_enter Try.func7, Try.ntmps7
  go_wp2_with (first
    | (with_reducible refine load_blk (w.heap.size) 23 rfl _ rfl rfl #[.int .i64 b, .int .i64 mo, .int .i64 li, .int .i64 wa] 23 _ PW.out.plan Try.underlying23 rfl (by kernel_rfl) ?_; simp only [Act.put, List.setIfInBounds_toArray, List.set_cons_zero, List.set_cons_succ])
    | (with_reducible refine load_blk (w.heap.size + 1) 42 rfl _ rfl rfl (mcs m) 42 _ PW.out.msg Try.underlying42 rfl (by kernel_rfl) ?_; simp only [Act.put, List.setIfInBounds_toArray, List.set_cons_zero, List.set_cons_succ])
    | (with_reducible refine load_blk (w.heap.size + 1 + 1) 44 rfl _ rfl rfl #[.int .i64 pl, .string st, .int .i64 tr, .int .i64 nx, .int .i64 td] 44 _ PW.out.sta Try.underlying44 rfl (by kernel_rfl) ?_; simp only [Act.put, List.setIfInBounds_toArray, List.set_cons_zero, List.set_cons_succ])
    | (go_at_call 14; refine (hmay _ PW.out.low).mono ?_; rintro e w1 ⟨rfl, hb1⟩; replace PW := Aside.mk (PW.out.next hb1); clear hb1; have PWT := Aside.mk (PW.out.setT (min (tr + 1) 1000)); have d0 := PW.out.res.cell 0 _ rfl; have d1 := PW.out.res.cell 1 _ rfl; have d2 := PW.out.res.cell 2 _ rfl; have d3 := PW.out.res.cell 3 _ rfl; have d4 := PW.out.res.cell 4 _ rfl; have e0 := PW.out.res.free 0; have e1 := PW.out.res.free 1; have e2 := PW.out.res.free 2; have e3 := PW.out.res.free 3; have e4 := PW.out.res.free 4; have s2 := PW.out.sta.cell 2 _ rfl; have s2f := PW.out.sta.free 2; have s3 := PW.out.sta.cell 3 _ rfl; have s3f := PW.out.sta.free 3; have he1 := hec.out; have he2 := hec2.out))
  obtain ⟨f1, f2, f3⟩ := pass_end (v := .slice none 0 0) (kk := none) PW.out.res PW.out.res.lt rfl PW.out.low (pl := 0) (s := ⟨#[]⟩) (tr := 0) (nx := 0) (td := 0)
  exact bodyPost_ret (results_cell_tt_row rfl _ _ (w.heap.size + 1 + 1 + 1) _ #[.int .i64 0, .string ⟨#[]⟩, .int .i64 0, .int .i64 0, .int .i64 0] _ rfl f1 Try.underlying44 rfl (by kernel_rfl)) rfl ⟨rfl, f3⟩
end Go.Proofs.Ytojmcejkfeaccaa
