/-
  Walks of the package judge: judge.Time (judge.Time).
-/
import Derived.Test.YtojmcejkfeaccaaJdTry0
set_option linter.unusedVariables false
set_option linter.unusedSimpArgs false
namespace Go.Proofs.Ytojmcejkfeaccaa
open Go.RowKit JdLaw
set_option maxRecDepth 100000
theorem PassW.set5S {w : World} {b mo li wa : Int} {m : JdMsg.Msg} {pl : Int} {st : ByteArray} {tr nx td : Int} {w1 : World} (h : PassW w b mo li wa m pl st tr nx td w1) (s : ByteArray) (t2 n2 d2 : Int) :
    PassW w b mo li wa m pl s t2 n2 d2 (((((w1.setCell ⟨w.heap.size + 1 + 1, 0, none⟩ (.int .i64 pl)).setCell ⟨w.heap.size + 1 + 1, 1, none⟩ (.string s)).setCell ⟨w.heap.size + 1 + 1, 2, none⟩ (.int .i64 t2)).setCell ⟨w.heap.size + 1 + 1, 3, none⟩ (.int .i64 n2)).setCell ⟨w.heap.size + 1 + 1, 4, none⟩ (.int .i64 d2)) := by
  have o1 : w.heap.size ≠ w.heap.size + 1 + 1 := by omega
  have o2 : w.heap.size + 1 ≠ w.heap.size + 1 + 1 := by omega
  have o3 : w.heap.size + 1 + 1 + 1 ≠ w.heap.size + 1 + 1 := by omega
  refine ⟨((((h.plan.setOther _ o1).setOther _ o1).setOther _ o1).setOther _ o1).setOther _ o1, ((((h.msg.setOther _ o2).setOther _ o2).setOther _ o2).setOther _ o2).setOther _ o2, ?_, ((((h.res.setOther _ o3).setOther _ o3).setOther _ o3).setOther _ o3).setOther _ o3, ((((h.low.setCell (by simp; omega) _).setCell (by simp; omega) _).setCell (by simp; omega) _).setCell (by simp; omega) _).setCell (by simp; omega) _⟩
  have := ((((h.sta.set 0 (.int .i64 pl)).set 1 (.string s)).set 2 (.int .i64 t2)).set 3 (.int .i64 n2)).set 4 (.int .i64 d2)
  simpa using this
set_option maxHeartbeats 4000000 in
theorem time_ok (b mo li wa : Int) (m : JdMsg.Msg) (pl : Nat) (st : ByteArray) (tr nx td now : Int) (nf : ByteArray) (ab ao : Nat) (w : World) (ec : Int)
    (hmay : ∀ W, Below w.heap.size w W → Calls Try.prog 14 #[.agg #[.int .i64 b, .int .i64 mo, .int .i64 li, .int .i64 wa], .agg (mcs m), .agg #[.int .i64 pl, .string st, .int .i64 tr, .int .i64 nx, .int .i64 td], .int .i64 now] W fun e w' => e = .returned (.int .i64 ec) ∧ Below W.heap.size W w') (hec : ec = 0)
    (hA : m.rA = some ⟨ab, ao, none⟩) (hpl : pl < m.rn) (hrn : m.rn ≤ 1000000) (hnf : w.cell? ⟨ab, ao + pl * 5 + 2, none⟩ = some (.string nf))
    (h1 : 0 ≤ m.at_) (h2 : m.at_ ≤ 1099511627776) (h3 : 0 ≤ li) (h4 : li ≤ 1073741824) (h5 : -999999999 ≤ m.by_) (h6 : m.by_ ≤ 999999999) (h7 : 0 ≤ now) (h8 : now ≤ 1099511627776) (h9 : 0 ≤ wa) (h10 : wa ≤ 1073741824) (o1 : ByteArray) (o2 : Int) (kk : Option ByteArray) (HO : Hid (JdLaw.jPass li wa m.at_ m.by_ td now m.hby m.fl m.fd m.mode nf st = (o1, o2, kk))) :
    Calls Try.prog 9 #[.agg #[.int .i64 b, .int .i64 mo, .int .i64 li, .int .i64 wa], .agg (mcs m), .agg #[.int .i64 pl, .string st, .int .i64 tr, .int .i64 nx, .int .i64 td], .int .i64 now] w fun e w' => ∃ v, e = .returned (.tuple #[.agg #[.int .i64 pl, .string o1, .int .i64 tr, .int .i64 nx, .int .i64 o2], v, .int .i64 0]) ∧ Row w.heap.size w' v kk ∧ Below w.heap.size w w' := by
  subst hec
  have HA := Lib.hid hA
  have HN := Lib.hid hnf
  have hab := World.block_lt_of_cell? w _ hnf
  simp only at hab
  clear hA hnf
  have hpass : ∀ (W : World), Below w.heap.size w W → Calls Try.prog 17 #[.agg #[.int .i64 b, .int .i64 mo, .int .i64 li, .int .i64 wa], .agg (mcs m), .agg #[.int .i64 pl, .string st, .int .i64 tr, .int .i64 nx, .int .i64 td], .int .i64 now] W fun e w' => ∃ v, e = .returned (.tuple #[.agg #[.int .i64 pl, .string o1, .int .i64 tr, .int .i64 nx, .int .i64 o2], v]) ∧ Row W.heap.size w' v kk ∧ Below W.heap.size W w' := fun W hW => by
    have h := pass_all b mo li wa m pl st tr nx td now nf ab ao W h1 h2 h3 h4 h5 h6 h7 h8 h9 h10 HA.out hpl hrn (cell_next hW HN.out)
    rw [HO.out] at h
    exact h
  have HP := Aside.mk hpass
  clear hpass
  have PW := Aside.mk (PassW.start w b mo li wa m pl st tr nx td)
  go_enter Try.func9, Try.ntmps9
  go_wp2_with (first
    | (with_reducible refine load_blk (w.heap.size) 23 rfl _ rfl rfl #[.int .i64 b, .int .i64 mo, .int .i64 li, .int .i64 wa] 23 _ PW.out.plan Try.underlying23 rfl (by kernel_rfl) ?_; simp only [Act.put, List.setIfInBounds_toArray, List.set_cons_zero, List.set_cons_succ])
    | (with_reducible refine load_blk (w.heap.size + 1) 42 rfl _ rfl rfl (mcs m) 42 _ PW.out.msg Try.underlying42 rfl (by kernel_rfl) ?_; simp only [Act.put, List.setIfInBounds_toArray, List.set_cons_zero, List.set_cons_succ])
    | (go_at_call 14; refine (hmay _ PW.out.low).mono ?_; rintro e w1 ⟨rfl, hb1⟩; replace PW := Aside.mk (PW.out.next hb1); clear hb1; have d0 := 0; clear d0; have s0 := PW.out.sta.cell 0 _ rfl; have s1 := PW.out.sta.cell 1 _ rfl; have s2 := PW.out.sta.cell 2 _ rfl; have s3 := PW.out.sta.cell 3 _ rfl; have s4 := PW.out.sta.cell 4 _ rfl)
    | (go_at_call 17; refine (HP.out _ PW.out.low).mono ?_; rintro e w4 ⟨v, rfl, hrow, hb4⟩; have hB := Aside.mk PW.out.res.lt; replace PW := Aside.mk (PW.out.next hb4); clear hb4 s0 s1 s2 s3 s4; have PS := Aside.mk (PW.out.set5S o1 tr nx o2); have d0 := PW.out.res.cell 0 _ rfl; have d1 := PW.out.res.cell 1 _ rfl; have d2 := PW.out.res.cell 2 _ rfl; have d3 := PW.out.res.cell 3 _ rfl; have d4 := PW.out.res.cell 4 _ rfl; have e0 := PW.out.res.free 0; have e1 := PW.out.res.free 1; have e2 := PW.out.res.free 2; have e3 := PW.out.res.free 3; have e4 := PW.out.res.free 4; have s0 := PW.out.sta.cell 0 _ rfl; have s1 := PW.out.sta.cell 1 _ rfl; have s2 := PW.out.sta.cell 2 _ rfl; have s3 := PW.out.sta.cell 3 _ rfl; have s4 := PW.out.sta.cell 4 _ rfl; have u0 := PW.out.sta.free 0; have u1 := PW.out.sta.free 1; have u2 := PW.out.sta.free 2; have u3 := PW.out.sta.free 3; have u4 := PW.out.sta.free 4; replace hrow := Aside.mk (hrow.set5 (w.heap.size + 1 + 1) (Nat.lt_trans (Nat.lt_succ_self _) hB.out) (.int .i64 pl) (.string o1) (.int .i64 tr) (.int .i64 nx) (.int .i64 o2))))
  obtain ⟨f1, f2, f3⟩ := pass_end PS.out.res hB.out hrow.out PS.out.low (pl := pl) (s := o1) (tr := tr) (nx := nx) (td := o2)
  exact bodyPost_ret (results_cell_tt_row rfl _ _ (w.heap.size + 1 + 1 + 1) _ #[.int .i64 pl, .string o1, .int .i64 tr, .int .i64 nx, .int .i64 o2] _ rfl f1 Try.underlying44 rfl (by kernel_rfl)) rfl ⟨v, rfl, f2, f3⟩
set_option maxHeartbeats 4000000 in
theorem time_bad (b mo li wa : Int) (m : JdMsg.Msg) (pl : Int) (st : ByteArray) (tr nx td now : Int) (w : World) (ec : Int)
    (hmay : ∀ W, Below w.heap.size w W → Calls Try.prog 14 #[.agg #[.int .i64 b, .int .i64 mo, .int .i64 li, .int .i64 wa], .agg (mcs m), .agg #[.int .i64 pl, .string st, .int .i64 tr, .int .i64 nx, .int .i64 td], .int .i64 now] W fun e w' => e = .returned (.int .i64 ec) ∧ Below W.heap.size W w') (hec : Hid ((ec == 0) = false)) (hec2 : Hid ((ec != 0) = true)) :
    Calls Try.prog 9 #[.agg #[.int .i64 b, .int .i64 mo, .int .i64 li, .int .i64 wa], .agg (mcs m), .agg #[.int .i64 pl, .string st, .int .i64 tr, .int .i64 nx, .int .i64 td], .int .i64 now] w fun e w' => e = .returned (.tuple #[.agg #[.int .i64 0, .string ⟨#[]⟩, .int .i64 0, .int .i64 0, .int .i64 0], .slice none 0 0, .int .i64 ec]) ∧ Below w.heap.size w w' := by
  have PW := Aside.mk (PassW.start w b mo li wa m pl st tr nx td)
  go_enter Try.func9, Try.ntmps9
  go_wp2_with (first
    | (with_reducible refine load_blk (w.heap.size) 23 rfl _ rfl rfl #[.int .i64 b, .int .i64 mo, .int .i64 li, .int .i64 wa] 23 _ PW.out.plan Try.underlying23 rfl (by kernel_rfl) ?_; simp only [Act.put, List.setIfInBounds_toArray, List.set_cons_zero, List.set_cons_succ])
    | (with_reducible refine load_blk (w.heap.size + 1) 42 rfl _ rfl rfl (mcs m) 42 _ PW.out.msg Try.underlying42 rfl (by kernel_rfl) ?_; simp only [Act.put, List.setIfInBounds_toArray, List.set_cons_zero, List.set_cons_succ])
    | (with_reducible refine load_blk (w.heap.size + 1 + 1) 44 rfl _ rfl rfl #[.int .i64 pl, .string st, .int .i64 tr, .int .i64 nx, .int .i64 td] 44 _ PW.out.sta Try.underlying44 rfl (by kernel_rfl) ?_; simp only [Act.put, List.setIfInBounds_toArray, List.set_cons_zero, List.set_cons_succ])
    | (go_at_call 14; refine (hmay _ PW.out.low).mono ?_; rintro e w1 ⟨rfl, hb1⟩; replace PW := Aside.mk (PW.out.next hb1); clear hb1; have d0 := PW.out.res.cell 0 _ rfl; have d1 := PW.out.res.cell 1 _ rfl; have d2 := PW.out.res.cell 2 _ rfl; have d3 := PW.out.res.cell 3 _ rfl; have d4 := PW.out.res.cell 4 _ rfl; have e0 := PW.out.res.free 0; have e1 := PW.out.res.free 1; have e2 := PW.out.res.free 2; have e3 := PW.out.res.free 3; have e4 := PW.out.res.free 4; have s2 := PW.out.sta.cell 2 _ rfl; have s2f := PW.out.sta.free 2; have s3 := PW.out.sta.cell 3 _ rfl; have s3f := PW.out.sta.free 3; have he1 := hec.out; have he2 := hec2.out))
  obtain ⟨f1, f2, f3⟩ := pass_end (v := .slice none 0 0) (kk := none) PW.out.res PW.out.res.lt rfl PW.out.low (pl := 0) (s := ⟨#[]⟩) (tr := 0) (nx := 0) (td := 0)
  exact bodyPost_ret (results_cell_tt_row rfl _ _ (w.heap.size + 1 + 1 + 1) _ #[.int .i64 0, .string ⟨#[]⟩, .int .i64 0, .int .i64 0, .int .i64 0] _ rfl f1 Try.underlying44 rfl (by kernel_rfl)) rfl ⟨rfl, f3⟩
end Go.Proofs.Ytojmcejkfeaccaa
