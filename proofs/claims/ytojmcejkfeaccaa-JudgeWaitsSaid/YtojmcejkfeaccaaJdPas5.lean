/-
  Walks of the package judge: what time's passing does, case by case.
-/
import Derived.Test.YtojmcejkfeaccaaJdPas2
set_option linter.unusedVariables false
set_option linter.unusedSimpArgs false
namespace Go.Proofs.Ytojmcejkfeaccaa
open Go.RowKit
set_option maxRecDepth 100000
set_option maxHeartbeats 4000000 in
theorem pass_r1 (b mo li wa : Int) (m : JdMsg.Msg) (pl : Nat) (st : ByteArray) (tr nx td now : Int) (nf : ByteArray) (ab ao : Nat) (w : World)
    (h1 : 0 ≤ m.at_) (h2 : m.at_ ≤ 1099511627776) (h3 : 0 ≤ li) (h4 : li ≤ 1073741824) (h5 : -999999999 ≤ m.by_) (h6 : m.by_ ≤ 999999999) (h7 : 0 ≤ now) (h8 : now ≤ 1099511627776) (h9 : 0 ≤ wa) (h10 : wa ≤ 1073741824)
    (hA : m.rA = some ⟨ab, ao, none⟩) (hpl : pl < m.rn) (hrn : m.rn ≤ 1000000) (hnf : w.cell? ⟨ab, ao + pl * 5 + 2, none⟩ = some (.string nf))
    (hby : Hid (m.hby = true)) (hc : m.at_ + m.by_ ≤ now) (hr : Hid (Lib.hasPrefix m.mode.data.toList [82] = true)) (he : m.at_ + li ≤ now) (kk : Option ByteArray) (td2 : Int) (HK : Hid ((if made m nf td 2 70 true true = true then some ⟨#[102, 97, 105, 108, 101, 100]⟩ else none) = kk)) (HT : Hid ((if made m nf td 2 70 true true = true then bits .or .i64 td 2 else td) = td2)) :
    Calls Try.prog 17 #[.agg #[.int .i64 b, .int .i64 mo, .int .i64 li, .int .i64 wa], .agg (mcs m), .agg #[.int .i64 pl, .string st, .int .i64 tr, .int .i64 nx, .int .i64 td], .int .i64 now] w fun e w' => ∃ v, e = .returned (.tuple #[.agg #[.int .i64 pl, .string ⟨#[70]⟩, .int .i64 tr, .int .i64 nx, .int .i64 td2], v]) ∧ Row w.heap.size w' v kk ∧ Below w.heap.size w w' := by
  have HA := Lib.hid hA
  have HN := Lib.hid hnf
  have hab := World.block_lt_of_cell? w _ hnf
  simp only at hab
  clear hA hnf
  have PW := Aside.mk (PassW.start w b mo li wa m pl st tr nx td)
  go_enter Try.func17, Try.ntmps17
  go_wp2_with (first
    | (go_at_call 10; refine (deadline_m m _ h1 h2 h5 h6).mono ?_; rw [hby.out]; rintro e w1 ⟨rfl, hb1⟩; replace PW := Aside.mk (PW.out.next hb1); clear hb1; have m5 := PW.out.msg.cell 5 (.bool m.hsz) rfl; have m6 := PW.out.msg.cell 6 (.bool m.hhf) rfl; have m7 := PW.out.msg.cell 7 (.bool m.hhu) rfl; have m8 := PW.out.msg.cell 8 (.bool m.hby) rfl; have m9 := PW.out.msg.cell 9 (.bool m.hpr) rfl; have m10 := PW.out.msg.cell 10 (.int .i64 m.siz) rfl; have m11 := PW.out.msg.cell 11 (.int .i64 m.hfo) rfl; have m12 := PW.out.msg.cell 12 (.int .i64 m.hun) rfl; have m13 := PW.out.msg.cell 13 (.int .i64 m.by_) rfl; have m14 := PW.out.msg.cell 14 (.int .i64 m.pri) rfl; have m15 := PW.out.msg.cell 15 (.string m.body) rfl; have m16 := PW.out.msg.cell 16 (.string m.ret) rfl; have m17 := PW.out.msg.cell 17 (.string m.env) rfl; have m18 := PW.out.msg.cell 18 (.string m.mode) rfl)
    | (go_at_call 18; refine (returns_any m _).mono ?_; rintro e w2 ⟨rfl, hb2⟩; rw [hr.out]; replace PW := Aside.mk (PW.out.next hb2); clear hb2; have hsf := PW.out.sta.free 1; have hs1 := PW.out.sta.cell 1 _ rfl)
    | (with_reducible refine load_blk w.heap.size 23 rfl _ rfl rfl #[.int .i64 b, .int .i64 mo, .int .i64 li, .int .i64 wa] 23 _ PW.out.plan Try.underlying23 rfl (by kernel_rfl) ?_; simp only [Act.put, List.setIfInBounds_toArray, List.set_cons_zero, List.set_cons_succ])
    | (with_reducible refine load_blk (w.heap.size + 1) 42 rfl _ rfl rfl (mcs m) 42 _ PW.out.msg Try.underlying42 rfl (by kernel_rfl) ?_; simp only [Act.put, List.setIfInBounds_toArray, List.set_cons_zero, List.set_cons_succ])
    | (go_at_call 12; refine (expires_m b mo li wa m _ h1 h2 h3 h4).mono ?_; rintro e w3 ⟨rfl, hb3⟩; replace PW := Aside.mk (PW.out.next hb3); clear hb3; have PW2 := Aside.mk (PW.out.setS ⟨#[70]⟩); have hsf := PW.out.sta.free 1; have hs1 := PW.out.sta.cell 1 _ rfl; have hs0 := PW.out.sta.cell 0 _ rfl; have hs2 := PW.out.sta.cell 2 _ rfl; have hs3 := PW.out.sta.cell 3 _ rfl; have hs4 := PW.out.sta.cell 4 _ rfl; have hm1 := PW.out.msg.cell 1 (.int .i64 m.at_) rfl; have hp3 := PW.out.plan.cell 3 _ rfl; have d0 := PW.out.res.cell 0 _ rfl; have d1 := PW.out.res.cell 1 _ rfl; have d2 := PW.out.res.cell 2 _ rfl; have d3 := PW.out.res.cell 3 _ rfl; have d4 := PW.out.res.cell 4 _ rfl; have e0 := PW.out.res.free 0; have e1 := PW.out.res.free 1; have e2 := PW.out.res.free 2; have e3 := PW.out.res.free 3; have e4 := PW.out.res.free 4)
    | (with_reducible refine load_blk (w.heap.size + 1) 42 rfl _ rfl rfl (mcs m) 42 _ PW2.out.msg Try.underlying42 rfl (by kernel_rfl) ?_; simp only [Act.put, List.setIfInBounds_toArray, List.set_cons_zero, List.set_cons_succ])
    | (go_at_call 16; refine (report_m m (w.heap.size + 1 + 1) pl ⟨#[70]⟩ tr nx td ⟨#[102, 97, 105, 108, 101, 100]⟩ true 70 2 true 1 nf ab ao _ PW2.out.sta HA.out hpl hrn (cell_next PW2.out.low HN.out) rfl kk td2 HK HT).mono ?_; rintro e w4 ⟨v, rfl, hrow, hbk, hcg⟩; have c0 := hbk.cell 0 _ rfl; have c1 := hbk.cell 1 _ rfl; have c2 := hbk.cell 2 _ rfl; have c3 := hbk.cell 3 _ rfl; have c4 := hbk.cell 4 _ rfl; have hre := Blk.chg PW2.out.res hcg (by show ¬ (_ = _); omega); have hlow := Chg.below PW2.out.low hcg (fun k q => by omega) PW2.out.low.size; have hB := PW2.out.res.lt; have d0 := hre.cell 0 _ rfl; have d1 := hre.cell 1 _ rfl; have d2 := hre.cell 2 _ rfl; have d3 := hre.cell 3 _ rfl; have d4 := hre.cell 4 _ rfl; have e0 := hre.free 0; have e1 := hre.free 1; have e2 := hre.free 2; have e3 := hre.free 3; have e4 := hre.free 4; replace hre := Aside.mk hre; replace hrow := Aside.mk hrow; replace hlow := Aside.mk hlow; replace hB := Aside.mk hB; clear hbk hcg))
  obtain ⟨f1, f2, f3⟩ := pass_end hre.out hB.out hrow.out hlow.out (pl := pl) (s := ⟨#[70]⟩) (tr := tr) (nx := nx) (td := td2)
  exact bodyPost_ret (results_cell_tmp_row rfl _ _ (w.heap.size + 1 + 1 + 1) _ #[.int .i64 pl, .string ⟨#[70]⟩, .int .i64 tr, .int .i64 nx, .int .i64 td2] _ rfl f1 Try.underlying44 rfl (by kernel_rfl)) rfl ⟨v, rfl, f2, f3⟩

set_option maxHeartbeats 4000000 in
theorem pass_r2 (b mo li wa : Int) (m : JdMsg.Msg) (pl : Nat) (st : ByteArray) (tr nx td now : Int) (nf : ByteArray) (ab ao : Nat) (w : World)
    (h1 : 0 ≤ m.at_) (h2 : m.at_ ≤ 1099511627776) (h3 : 0 ≤ li) (h4 : li ≤ 1073741824) (h5 : -999999999 ≤ m.by_) (h6 : m.by_ ≤ 999999999) (h7 : 0 ≤ now) (h8 : now ≤ 1099511627776) (h9 : 0 ≤ wa) (h10 : wa ≤ 1073741824)
    (hA : m.rA = some ⟨ab, ao, none⟩) (hpl : pl < m.rn) (hrn : m.rn ≤ 1000000) (hnf : w.cell? ⟨ab, ao + pl * 5 + 2, none⟩ = some (.string nf))
    (hby : Hid (m.hby = true)) (hc : m.at_ + m.by_ ≤ now) (hr : Hid (Lib.hasPrefix m.mode.data.toList [82] = true)) (he : now < m.at_ + li) (kk : Option ByteArray) (td2 : Int) (HK : Hid ((if made m nf td 2 70 true true = true then some ⟨#[102, 97, 105, 108, 101, 100]⟩ else none) = kk)) (HT : Hid ((if made m nf td 2 70 true true = true then bits .or .i64 td 2 else td) = td2)) :
    Calls Try.prog 17 #[.agg #[.int .i64 b, .int .i64 mo, .int .i64 li, .int .i64 wa], .agg (mcs m), .agg #[.int .i64 pl, .string st, .int .i64 tr, .int .i64 nx, .int .i64 td], .int .i64 now] w fun e w' => ∃ v, e = .returned (.tuple #[.agg #[.int .i64 pl, .string ⟨#[70]⟩, .int .i64 tr, .int .i64 nx, .int .i64 td2], v]) ∧ Row w.heap.size w' v kk ∧ Below w.heap.size w w' := by
  have HA := Lib.hid hA
  have HN := Lib.hid hnf
  have hab := World.block_lt_of_cell? w _ hnf
  simp only at hab
  clear hA hnf
  have PW := Aside.mk (PassW.start w b mo li wa m pl st tr nx td)
  go_enter Try.func17, Try.ntmps17
  go_wp2_with (first
    | (go_at_call 10; refine (deadline_m m _ h1 h2 h5 h6).mono ?_; rw [hby.out]; rintro e w1 ⟨rfl, hb1⟩; replace PW := Aside.mk (PW.out.next hb1); clear hb1; have m5 := PW.out.msg.cell 5 (.bool m.hsz) rfl; have m6 := PW.out.msg.cell 6 (.bool m.hhf) rfl; have m7 := PW.out.msg.cell 7 (.bool m.hhu) rfl; have m8 := PW.out.msg.cell 8 (.bool m.hby) rfl; have m9 := PW.out.msg.cell 9 (.bool m.hpr) rfl; have m10 := PW.out.msg.cell 10 (.int .i64 m.siz) rfl; have m11 := PW.out.msg.cell 11 (.int .i64 m.hfo) rfl; have m12 := PW.out.msg.cell 12 (.int .i64 m.hun) rfl; have m13 := PW.out.msg.cell 13 (.int .i64 m.by_) rfl; have m14 := PW.out.msg.cell 14 (.int .i64 m.pri) rfl; have m15 := PW.out.msg.cell 15 (.string m.body) rfl; have m16 := PW.out.msg.cell 16 (.string m.ret) rfl; have m17 := PW.out.msg.cell 17 (.string m.env) rfl; have m18 := PW.out.msg.cell 18 (.string m.mode) rfl)
    | (go_at_call 18; refine (returns_any m _).mono ?_; rintro e w2 ⟨rfl, hb2⟩; rw [hr.out]; replace PW := Aside.mk (PW.out.next hb2); clear hb2; have hsf := PW.out.sta.free 1; have hs1 := PW.out.sta.cell 1 _ rfl)
    | (with_reducible refine load_blk w.heap.size 23 rfl _ rfl rfl #[.int .i64 b, .int .i64 mo, .int .i64 li, .int .i64 wa] 23 _ PW.out.plan Try.underlying23 rfl (by kernel_rfl) ?_; simp only [Act.put, List.setIfInBounds_toArray, List.set_cons_zero, List.set_cons_succ])
    | (with_reducible refine load_blk (w.heap.size + 1) 42 rfl _ rfl rfl (mcs m) 42 _ PW.out.msg Try.underlying42 rfl (by kernel_rfl) ?_; simp only [Act.put, List.setIfInBounds_toArray, List.set_cons_zero, List.set_cons_succ])
    | (go_at_call 12; refine (expires_m b mo li wa m _ h1 h2 h3 h4).mono ?_; rintro e w3 ⟨rfl, hb3⟩; replace PW := Aside.mk (PW.out.next hb3); clear hb3; have PW2 := Aside.mk (PW.out.setS ⟨#[70]⟩); have hsf := PW.out.sta.free 1; have hs1 := PW.out.sta.cell 1 _ rfl; have hs0 := PW.out.sta.cell 0 _ rfl; have hs2 := PW.out.sta.cell 2 _ rfl; have hs3 := PW.out.sta.cell 3 _ rfl; have hs4 := PW.out.sta.cell 4 _ rfl; have hm1 := PW.out.msg.cell 1 (.int .i64 m.at_) rfl; have hp3 := PW.out.plan.cell 3 _ rfl; have d0 := PW.out.res.cell 0 _ rfl; have d1 := PW.out.res.cell 1 _ rfl; have d2 := PW.out.res.cell 2 _ rfl; have d3 := PW.out.res.cell 3 _ rfl; have d4 := PW.out.res.cell 4 _ rfl; have e0 := PW.out.res.free 0; have e1 := PW.out.res.free 1; have e2 := PW.out.res.free 2; have e3 := PW.out.res.free 3; have e4 := PW.out.res.free 4)
    | (with_reducible refine load_blk (w.heap.size + 1) 42 rfl _ rfl rfl (mcs m) 42 _ PW2.out.msg Try.underlying42 rfl (by kernel_rfl) ?_; simp only [Act.put, List.setIfInBounds_toArray, List.set_cons_zero, List.set_cons_succ])
    | (go_at_call 16; refine (report_m m (w.heap.size + 1 + 1) pl ⟨#[70]⟩ tr nx td ⟨#[102, 97, 105, 108, 101, 100]⟩ true 70 2 true 1 nf ab ao _ PW2.out.sta HA.out hpl hrn (cell_next PW2.out.low HN.out) rfl kk td2 HK HT).mono ?_; rintro e w4 ⟨v, rfl, hrow, hbk, hcg⟩; have c0 := hbk.cell 0 _ rfl; have c1 := hbk.cell 1 _ rfl; have c2 := hbk.cell 2 _ rfl; have c3 := hbk.cell 3 _ rfl; have c4 := hbk.cell 4 _ rfl; have hre := Blk.chg PW2.out.res hcg (by show ¬ (_ = _); omega); have hlow := Chg.below PW2.out.low hcg (fun k q => by omega) PW2.out.low.size; have hB := PW2.out.res.lt; have d0 := hre.cell 0 _ rfl; have d1 := hre.cell 1 _ rfl; have d2 := hre.cell 2 _ rfl; have d3 := hre.cell 3 _ rfl; have d4 := hre.cell 4 _ rfl; have e0 := hre.free 0; have e1 := hre.free 1; have e2 := hre.free 2; have e3 := hre.free 3; have e4 := hre.free 4; replace hre := Aside.mk hre; replace hrow := Aside.mk hrow; replace hlow := Aside.mk hlow; replace hB := Aside.mk hB; clear hbk hcg))
  obtain ⟨f1, f2, f3⟩ := pass_end hre.out hB.out hrow.out hlow.out (pl := pl) (s := ⟨#[70]⟩) (tr := tr) (nx := nx) (td := td2)
  exact bodyPost_ret (results_cell_tmp_row rfl _ _ (w.heap.size + 1 + 1 + 1) _ #[.int .i64 pl, .string ⟨#[70]⟩, .int .i64 tr, .int .i64 nx, .int .i64 td2] _ rfl f1 Try.underlying44 rfl (by kernel_rfl)) rfl ⟨v, rfl, f2, f3⟩
end Go.Proofs.Ytojmcejkfeaccaa
