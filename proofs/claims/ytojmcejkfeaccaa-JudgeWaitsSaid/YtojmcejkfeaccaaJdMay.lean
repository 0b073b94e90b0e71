/-
  Walks of the package judge: judge.may (judge.may).
-/
import Derived.Test.YtojmcejkfeaccaaJdAlarm
set_option linter.unusedVariables false
set_option linter.unusedSimpArgs false
namespace Go.Proofs.Ytojmcejkfeaccaa
open Go.RowKit JdLaw
set_option maxRecDepth 100000
set_option maxHeartbeats 4000000 in
theorem may_range (b mo li wa : Int) (m : JdMsg.Msg) (pl : Int) (st : ByteArray) (tr nx td now : Int) (w : World) (hr : Hid (JdCal.right b mo li wa = false)) :
    Calls Try.prog 14 #[.agg #[.int .i64 b, .int .i64 mo, .int .i64 li, .int .i64 wa], .agg (mcs m), .agg #[.int .i64 pl, .string st, .int .i64 tr, .int .i64 nx, .int .i64 td], .int .i64 now] w fun e w' => e = .returned (.int .i64 1) ∧ Below w.heap.size w w' := by
  have PW := Aside.mk (PassV.start w b mo li wa m pl st tr nx td)
  go_enter Try.func14, Try.ntmps14
  go_wp2_with (first
    | (with_reducible refine load_blk (w.heap.size) 23 rfl _ rfl rfl #[.int .i64 b, .int .i64 mo, .int .i64 li, .int .i64 wa] 23 _ PW.out.plan Try.underlying23 rfl (by kernel_rfl) ?_; simp only [Act.put, List.setIfInBounds_toArray, List.set_cons_zero, List.set_cons_succ])
    | (go_at_call 5; refine (right_any b mo li wa _).mono ?_; rw [hr.out]; rintro e w1 ⟨rfl, hb1⟩; replace PW := Aside.mk (PW.out.next hb1); clear hb1; have s0 := PW.out.sta.cell 0 _ rfl; have s1 := PW.out.sta.cell 1 _ rfl; have m19 := PW.out.msg.cell 19 (.slice m.rA m.rn m.rc) rfl))
  go_ret
  exact ⟨rfl, PW.out.low⟩
set_option maxHeartbeats 4000000 in
theorem may_state (b mo li wa : Int) (m : JdMsg.Msg) (pl : Int) (st : ByteArray) (tr nx td now : Int) (w : World) (hr : Hid (JdCal.right b mo li wa = true)) (h7 : 0 ≤ now) (h8 : now ≤ 1099511627776) (hst1 : (st.toList == [82]) = false) (hst2 : (st.toList != [82]) = true) :
    Calls Try.prog 14 #[.agg #[.int .i64 b, .int .i64 mo, .int .i64 li, .int .i64 wa], .agg (mcs m), .agg #[.int .i64 pl, .string st, .int .i64 tr, .int .i64 nx, .int .i64 td], .int .i64 now] w fun e w' => e = .returned (.int .i64 9) ∧ Below w.heap.size w w' := by
  have PW := Aside.mk (PassV.start w b mo li wa m pl st tr nx td)
  go_enter Try.func14, Try.ntmps14
  go_wp2_with (first
    | (with_reducible refine load_blk (w.heap.size) 23 rfl _ rfl rfl #[.int .i64 b, .int .i64 mo, .int .i64 li, .int .i64 wa] 23 _ PW.out.plan Try.underlying23 rfl (by kernel_rfl) ?_; simp only [Act.put, List.setIfInBounds_toArray, List.set_cons_zero, List.set_cons_succ])
    | (go_at_call 5; refine (right_any b mo li wa _).mono ?_; rw [hr.out]; rintro e w1 ⟨rfl, hb1⟩; replace PW := Aside.mk (PW.out.next hb1); clear hb1; have s0 := PW.out.sta.cell 0 _ rfl; have s1 := PW.out.sta.cell 1 _ rfl; have m19 := PW.out.msg.cell 19 (.slice m.rA m.rn m.rc) rfl))
  go_ret
  exact ⟨rfl, PW.out.low⟩
set_option maxHeartbeats 4000000 in
theorem may_ok (b mo li wa : Int) (m : JdMsg.Msg) (pl : Int) (st : ByteArray) (tr nx td now : Int) (w : World) (hr : Hid (JdCal.right b mo li wa = true)) (h7 : 0 ≤ now) (h8 : now ≤ 1099511627776) (hst1 : Hid ((st.toList == [82]) = true)) (hst2 : Hid ((st.toList != [82]) = false)) (hp0 : 0 ≤ pl) (hp1 : pl < (m.rn : Int)) :
    Calls Try.prog 14 #[.agg #[.int .i64 b, .int .i64 mo, .int .i64 li, .int .i64 wa], .agg (mcs m), .agg #[.int .i64 pl, .string st, .int .i64 tr, .int .i64 nx, .int .i64 td], .int .i64 now] w fun e w' => e = .returned (.int .i64 0) ∧ Below w.heap.size w w' := by
  have PW := Aside.mk (PassV.start w b mo li wa m pl st tr nx td)
  have hq1 := hst1.out
  have hq2 := hst2.out
  go_enter Try.func14, Try.ntmps14
  go_wp2_with (first
    | (with_reducible refine load_blk (w.heap.size) 23 rfl _ rfl rfl #[.int .i64 b, .int .i64 mo, .int .i64 li, .int .i64 wa] 23 _ PW.out.plan Try.underlying23 rfl (by kernel_rfl) ?_; simp only [Act.put, List.setIfInBounds_toArray, List.set_cons_zero, List.set_cons_succ])
    | (go_at_call 5; refine (right_any b mo li wa _).mono ?_; rw [hr.out]; rintro e w1 ⟨rfl, hb1⟩; replace PW := Aside.mk (PW.out.next hb1); clear hb1; have s0 := PW.out.sta.cell 0 _ rfl; have s1 := PW.out.sta.cell 1 _ rfl; have m19 := PW.out.msg.cell 19 (.slice m.rA m.rn m.rc) rfl))
  go_ret
  exact ⟨rfl, PW.out.low⟩
theorem usual_any (w : World) : Calls Try.prog 8 #[] w fun e w' => e = .returned (.agg #[.int .i64 10, .int .i64 60, .int .i64 500, .int .i64 100]) ∧ w' = w.alloc (.cells #[.int .i64 10, .int .i64 60, .int .i64 500, .int .i64 100] 23) := by
  go_enter Try.func8, Try.ntmps8
  go_wp2
  exact bodyPost_ret (v := .agg #[.int .i64 10, .int .i64 60, .int .i64 500, .int .i64 100]) (by simp [results, Try.results8, go_sem]) rfl ⟨rfl, rfl⟩
end Go.Proofs.Ytojmcejkfeaccaa
