/-
  Walks of the package judge: judge.Try, case by case (outcome 4).
-/
import Derived.Test.YtojmcejkfeaccaaJdTry0
set_option linter.unusedVariables false
set_option linter.unusedSimpArgs false
namespace Go.Proofs.Ytojmcejkfeaccaa
open Go.RowKit JdLaw
set_option maxRecDepth 100000
set_option maxHeartbeats 4000000 in
theorem try_w4 (b mo li wa : Int) (m : JdMsg.Msg) (pl : Nat) (st : ByteArray) (tr nx td now : Int) (nf : ByteArray) (ab ao : Nat) (w : World) (ec : Int)
    (hmay : ∀ W, Below w.heap.size w W → Calls Try.prog 14 #[.agg #[.int .i64 b, .int .i64 mo, .int .i64 li, .int .i64 wa], .agg (mcs m), .agg #[.int .i64 pl, .string st, .int .i64 tr, .int .i64 nx, .int .i64 td], .int .i64 now] W fun e w' => e = .returned (.int .i64 ec) ∧ Below W.heap.size W w') (hec : ec = 0) (ht0 : 0 ≤ tr) (ht1 : tr ≤ 1000000) 
    (hA : m.rA = some ⟨ab, ao, none⟩) (hpl : pl < m.rn) (hrn : m.rn ≤ 1000000) (hnf : w.cell? ⟨ab, ao + pl * 5 + 2, none⟩ = some (.string nf)) (wt : Int) (hw0 : 0 ≤ wt) (hw1 : wt ≤ 1048576) (hwait : ∀ W, Calls Try.prog 6 #[.agg #[.int .i64 b, .int .i64 mo, .int .i64 li, .int .i64 wa], .int .i64 (min (tr + 1) 1000)] W fun e w' => e = .returned (.int .i64 wt) ∧ Below W.heap.size W w')
    (h1 : 0 ≤ m.at_) (h2 : m.at_ ≤ 1099511627776) (h3 : 0 ≤ li) (h4 : li ≤ 1073741824) (h5 : -999999999 ≤ m.by_) (h6 : m.by_ ≤ 999999999) (h7 : 0 ≤ now) (h8 : now ≤ 1099511627776) (h9 : 0 ≤ wa) (h10 : wa ≤ 1073741824) (o1 : ByteArray) (o2 : Int) (kk : Option ByteArray) (HO : Hid (JdLaw.jPass li wa m.at_ m.by_ td now m.hby m.fl m.fd m.mode nf st = (o1, o2, kk))) :
    Calls Try.prog 7 #[.agg #[.int .i64 b, .int .i64 mo, .int .i64 li, .int .i64 wa], .agg (mcs m), .agg #[.int .i64 pl, .string st, .int .i64 tr, .int .i64 nx, .int .i64 td], .int .i64 now, .int .i64 4] w fun e w' => ∃ v, e = .returned (.tuple #[.agg #[.int .i64 pl, .string o1, .int .i64 (min (tr + 1) 1000), .int .i64 (now + wt), .int .i64 o2], v, .int .i64 0]) ∧ Row w.heap.size w' v kk ∧ Below w.heap.size w w' := by
  subst hec
  have HA := Lib.hid hA
  have HN := Lib.hid hnf
  have hab := World.block_lt_of_cell? w _ hnf
  simp only at hab
  clear hA hnf
  have PW := Aside.mk (PassW.start w b mo li wa m pl st tr nx td)
  have hpass : ∀ (W : World), Below w.heap.size w W → Calls Try.prog 17 #[.agg #[.int .i64 b, .int .i64 mo, .int .i64 li, .int .i64 wa], .agg (mcs m), .agg #[.int .i64 pl, .string st, .int .i64 (min (tr + 1) 1000), .int .i64 (now + wt), .int .i64 td], .int .i64 now] W fun e w' => ∃ v, e = .returned (.tuple #[.agg #[.int .i64 pl, .string o1, .int .i64 (min (tr + 1) 1000), .int .i64 (now + wt), .int .i64 o2], v]) ∧ Row W.heap.size w' v kk ∧ Below W.heap.size W w' := fun W hW => by
    have h := pass_all b mo li wa m pl st (min (tr + 1) 1000) (now + wt) td now nf ab ao W h1 h2 h3 h4 h5 h6 h7 h8 h9 h10 HA.out hpl hrn (cell_next hW HN.out)
    rw [HO.out] at h
    exact h
  have HP := Aside.mk hpass
  clear hpass
  go_enter Try.func7, Try.ntmps7
  go_wp2_with (first
    | (with_reducible refine load_blk (w.heap.size) 23 rfl _ rfl rfl #[.int .i64 b, .int .i64 mo, .int .i64 li, .int .i64 wa] 23 _ PW.out.plan Try.underlying23 rfl (by kernel_rfl) ?_; simp only [Act.put, List.setIfInBounds_toArray, List.set_cons_zero, List.set_cons_succ])
    | (with_reducible refine load_blk (w.heap.size) 23 rfl _ rfl rfl #[.int .i64 b, .int .i64 mo, .int .i64 li, .int .i64 wa] 23 _ PWT.out.plan Try.underlying23 rfl (by kernel_rfl) ?_; simp only [Act.put, List.setIfInBounds_toArray, List.set_cons_zero, List.set_cons_succ])
    | (with_reducible refine load_blk (w.heap.size) 23 rfl _ rfl rfl #[.int .i64 b, .int .i64 mo, .int .i64 li, .int .i64 wa] 23 _ PWN.out.plan Try.underlying23 rfl (by kernel_rfl) ?_; simp only [Act.put, List.setIfInBounds_toArray, List.set_cons_zero, List.set_cons_succ])
    | (with_reducible refine load_blk (w.heap.size + 1) 42 rfl _ rfl rfl (mcs m) 42 _ PW.out.msg Try.underlying42 rfl (by kernel_rfl) ?_; simp only [Act.put, List.setIfInBounds_toArray, List.set_cons_zero, List.set_cons_succ])
    | (with_reducible refine load_blk (w.heap.size + 1) 42 rfl _ rfl rfl (mcs m) 42 _ PWN.out.msg Try.underlying42 rfl (by kernel_rfl) ?_; simp only [Act.put, List.setIfInBounds_toArray, List.set_cons_zero, List.set_cons_succ])
    | (with_reducible refine load_blk (w.heap.size + 1 + 1) 44 rfl _ rfl rfl #[.int .i64 pl, .string st, .int .i64 tr, .int .i64 nx, .int .i64 td] 44 _ PW.out.sta Try.underlying44 rfl (by kernel_rfl) ?_; simp only [Act.put, List.setIfInBounds_toArray, List.set_cons_zero, List.set_cons_succ])
    | (with_reducible refine load_blk (w.heap.size + 1 + 1) 44 rfl _ rfl rfl #[.int .i64 pl, .string st, .int .i64 (min (tr + 1) 1000), .int .i64 (now + wt), .int .i64 td] 44 _ PWN.out.sta Try.underlying44 rfl (by kernel_rfl) ?_; simp only [Act.put, List.setIfInBounds_toArray, List.set_cons_zero, List.set_cons_succ])
    | (go_at_call 14; refine (hmay _ PW.out.low).mono ?_; rintro e w1 ⟨rfl, hb1⟩; replace PW := Aside.mk (PW.out.next hb1); clear hb1; have PWT := Aside.mk (PW.out.setT (min (tr + 1) 1000)); have d0 := PW.out.res.cell 0 _ rfl; have d1 := PW.out.res.cell 1 _ rfl; have d2 := PW.out.res.cell 2 _ rfl; have d3 := PW.out.res.cell 3 _ rfl; have d4 := PW.out.res.cell 4 _ rfl; have e0 := PW.out.res.free 0; have e1 := PW.out.res.free 1; have e2 := PW.out.res.free 2; have e3 := PW.out.res.free 3; have e4 := PW.out.res.free 4; have s2 := PW.out.sta.cell 2 _ rfl; have s2f := PW.out.sta.free 2; have s3 := PW.out.sta.cell 3 _ rfl; have s3f := PW.out.sta.free 3)
    | (go_at_call 6; refine (hwait _).mono ?_; rintro e w2 ⟨rfl, hb2⟩; clear d0 d1 d2 d3 d4 e0 e1 e2 e3 e4 s2 s2f s3 s3f; replace PW := Aside.mk (PWT.out.next hb2); clear hb2 PWT; have PWN := Aside.mk (PW.out.setN (now + wt)); have s3 := PW.out.sta.cell 3 _ rfl; have s3f := PW.out.sta.free 3)
    | (go_at_call 17; refine (HP.out _ PWN.out.low).mono ?_; rintro e w4 ⟨v, rfl, hrow, hb4⟩; clear s3 s3f; replace PW := Aside.mk (PWN.out.next hb4); have hB := Aside.mk PWN.out.res.lt; clear hb4 PWN; have d0 := PW.out.res.cell 0 _ rfl; have d1 := PW.out.res.cell 1 _ rfl; have d2 := PW.out.res.cell 2 _ rfl; have d3 := PW.out.res.cell 3 _ rfl; have d4 := PW.out.res.cell 4 _ rfl; have e0 := PW.out.res.free 0; have e1 := PW.out.res.free 1; have e2 := PW.out.res.free 2; have e3 := PW.out.res.free 3; have e4 := PW.out.res.free 4; have hl4 := PW.out.res.lt; replace hrow := Aside.mk hrow))
  obtain ⟨f1, f2, f3⟩ := pass_end PW.out.res hB.out hrow.out PW.out.low (pl := pl) (s := o1) (tr := min (tr + 1) 1000) (nx := now + wt) (td := o2)
  exact bodyPost_ret (results_cell_tt_row rfl _ _ (w.heap.size + 1 + 1 + 1) _ #[.int .i64 pl, .string o1, .int .i64 (min (tr + 1) 1000), .int .i64 (now + wt), .int .i64 o2] _ rfl (f1.old _) Try.underlying44 rfl (by kernel_rfl)) rfl ⟨v, rfl, f2.old _, f3.alloc f3.size _⟩
end Go.Proofs.Ytojmcejkfeaccaa
