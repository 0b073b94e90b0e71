/-
  Walks of the package judge: judge.Try, case by case (outcome 2).
-/
import Derived.Test.YtojmcejkfeaccaaJdTry0
set_option linter.unusedVariables false
set_option linter.unusedSimpArgs false
namespace Go.Proofs.Ytojmcejkfeaccaa
open Go.RowKit JdLaw
set_option maxRecDepth 100000
set_option maxHeartbeats 4000000 in
theorem try_e2 (b mo li wa : Int) (m : JdMsg.Msg) (pl : Nat) (st : ByteArray) (tr nx td now : Int) (nf : ByteArray) (ab ao : Nat) (w : World) (ec : Int)
    (hmay : ∀ W, Below w.heap.size w W → Calls Try.prog 14 #[.agg #[.int .i64 b, .int .i64 mo, .int .i64 li, .int .i64 wa], .agg (mcs m), .agg #[.int .i64 pl, .string st, .int .i64 tr, .int .i64 nx, .int .i64 td], .int .i64 now] W fun e w' => e = .returned (.int .i64 ec) ∧ Below W.heap.size W w') (hec : ec = 0) (ht0 : 0 ≤ tr) (ht1 : tr ≤ 1000000) 
    (hA : m.rA = some ⟨ab, ao, none⟩) (hpl : pl < m.rn) (hrn : m.rn ≤ 1000000) (hnf : w.cell? ⟨ab, ao + pl * 5 + 2, none⟩ = some (.string nf)) (kk : Option ByteArray) (td2 : Int) (HK : Hid ((if made m nf td 4 83 false false = true then some ⟨#[100, 101, 108, 105, 118, 101, 114, 101, 100]⟩ else none) = kk)) (HT : Hid ((if made m nf td 4 83 false false = true then bits .or .i64 td 4 else td) = td2)) :
    Calls Try.prog 7 #[.agg #[.int .i64 b, .int .i64 mo, .int .i64 li, .int .i64 wa], .agg (mcs m), .agg #[.int .i64 pl, .string st, .int .i64 tr, .int .i64 nx, .int .i64 td], .int .i64 now, .int .i64 2] w fun e w' => ∃ v, e = .returned (.tuple #[.agg #[.int .i64 pl, .string ⟨#[68]⟩, .int .i64 (min (tr + 1) 1000), .int .i64 nx, .int .i64 td2], v, .int .i64 0]) ∧ Row w.heap.size w' v kk ∧ Below w.heap.size w w' := by
  subst hec
  have HA := Lib.hid hA
  have HN := Lib.hid hnf
  have hab := World.block_lt_of_cell? w _ hnf
  simp only at hab
  clear hA hnf
  have PW := Aside.mk (PassW.start w b mo li wa m pl st tr nx td)
  go_enter Try.func7, Try.ntmps7
  go_wp2_with (first
    | (with_reducible refine load_blk (w.heap.size) 23 rfl _ rfl rfl #[.int .i64 b, .int .i64 mo, .int .i64 li, .int .i64 wa] 23 _ PW.out.plan Try.underlying23 rfl (by kernel_rfl) ?_; simp only [Act.put, List.setIfInBounds_toArray, List.set_cons_zero, List.set_cons_succ])
    | (with_reducible refine load_blk (w.heap.size + 1) 42 rfl _ rfl rfl (mcs m) 42 _ PW.out.msg Try.underlying42 rfl (by kernel_rfl) ?_; simp only [Act.put, List.setIfInBounds_toArray, List.set_cons_zero, List.set_cons_succ])
    | (with_reducible refine load_blk (w.heap.size + 1 + 1) 44 rfl _ rfl rfl #[.int .i64 pl, .string st, .int .i64 tr, .int .i64 nx, .int .i64 td] 44 _ PW.out.sta Try.underlying44 rfl (by kernel_rfl) ?_; simp only [Act.put, List.setIfInBounds_toArray, List.set_cons_zero, List.set_cons_succ])
    | (go_at_call 14; refine (hmay _ PW.out.low).mono ?_; rintro e w1 ⟨rfl, hb1⟩; replace PW := Aside.mk (PW.out.next hb1); clear hb1; have PWT := Aside.mk (PW.out.setT (min (tr + 1) 1000)); have d0 := PW.out.res.cell 0 _ rfl; have d1 := PW.out.res.cell 1 _ rfl; have d2 := PW.out.res.cell 2 _ rfl; have d3 := PW.out.res.cell 3 _ rfl; have d4 := PW.out.res.cell 4 _ rfl; have e0 := PW.out.res.free 0; have e1 := PW.out.res.free 1; have e2 := PW.out.res.free 2; have e3 := PW.out.res.free 3; have e4 := PW.out.res.free 4; have s2 := PW.out.sta.cell 2 _ rfl; have s2f := PW.out.sta.free 2; have s3 := PW.out.sta.cell 3 _ rfl; have s3f := PW.out.sta.free 3)
    | (go_at_call 15; refine (end_any m (w.heap.size + 1 + 1) (w.heap.size + 1) pl st ⟨#[68]⟩ (min (tr + 1) 1000) nx td ⟨#[100, 101, 108, 105, 118, 101, 114, 101, 100]⟩ 83 4 false 2 nf ab ao _ PWT.out.sta PWT.out.msg (by omega) (by omega) HA.out hpl hrn (cell_next PWT.out.low HN.out) rfl kk td2 HK HT).mono ?_; rintro e w4 ⟨v, rfl, hrow, hcg⟩; have hre := Blk.chg PWT.out.res hcg (by show ¬ (_ = _); omega); have hlow := Chg.below PWT.out.low hcg (fun k q => by omega) PWT.out.low.size; have hB := PWT.out.res.lt; clear d0 d1 d2 d3 d4 e0 e1 e2 e3 e4 s2 s2f s3 s3f; have d0 := hre.cell 0 _ rfl; have d1 := hre.cell 1 _ rfl; have d2 := hre.cell 2 _ rfl; have d3 := hre.cell 3 _ rfl; have d4 := hre.cell 4 _ rfl; have e0 := hre.free 0; have e1 := hre.free 1; have e2 := hre.free 2; have e3 := hre.free 3; have e4 := hre.free 4; replace hre := Aside.mk hre; replace hrow := Aside.mk hrow; replace hlow := Aside.mk hlow; replace hB := Aside.mk hB; clear hcg))
  obtain ⟨f1, f2, f3⟩ := pass_end hre.out hB.out hrow.out hlow.out (pl := pl) (s := ⟨#[68]⟩) (tr := min (tr + 1) 1000) (nx := nx) (td := td2)
  exact bodyPost_ret (results_cell_tt_row rfl _ _ (w.heap.size + 1 + 1 + 1) _ #[.int .i64 pl, .string ⟨#[68]⟩, .int .i64 (min (tr + 1) 1000), .int .i64 nx, .int .i64 td2] _ rfl f1 Try.underlying44 rfl (by kernel_rfl)) rfl ⟨v, rfl, f2, f3⟩
end Go.Proofs.Ytojmcejkfeaccaa
