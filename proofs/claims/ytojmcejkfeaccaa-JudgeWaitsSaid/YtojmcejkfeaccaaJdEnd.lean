/-
  Walks of the package judge: an outcome's end (the closure in judge.Try), and judge.Try.
-/
import Derived.Test.YtojmcejkfeaccaaJdPas7
set_option linter.unusedVariables false
set_option linter.unusedSimpArgs false
namespace Go.Proofs.Ytojmcejkfeaccaa
open Go.RowKit JdLaw
set_option maxRecDepth 100000
theorem results_cell_tt {fn : Func} {p u x : Tmp} {ty : TypeId} (h : fn.results = #[.cell p ty, .tmp u, .tmp x]) (tmps : Array Value) (P : Program) (w : World) :
    (results fn tmps).run P w =
      ((asAddr (tmps.getD p undef)).run P w).andThen fun a w₁ => ((loadVar ty a).run P w₁).andThen fun v w₂ => .ok (.tuple #[v, tmps.getD u undef, tmps.getD x undef]) w₂ := by
  simp only [results, h]
  simp [Sem.run_bind, Result.andThen]
theorem results_cell_tt_row {P : Program} {fn : Func} {p u x : Tmp} {ty : TypeId} (h : fn.results = #[.cell p ty, .tmp u, .tmp x]) (tmps : Array Value) (w : World) (g : Nat) (t : TypeId) (cs : Array Value) (d : TypeDesc)
    (hp : tmps.getD p undef = .pointer (some ⟨g, 0, none⟩)) (hg : Blk w g cs t)
    (hu : P.underlying ty = some d) (hd : (match d with | .struct _ | .array _ _ => true | _ => false) = true) (hi : (P.info? ty).map (·.size) = some cs.size) :
    (results fn tmps).run P w = .ok (.tuple #[.agg cs, tmps.getD u undef, tmps.getD x undef]) w := by
  rw [results_cell_tt h, hp]
  simp [asAddr, run_loadVar_row w g t ty cs (0, 0) d hg hu hd hi]
theorem fin_end {w w4 : World} {pl : Int} {s : ByteArray} {tr nx td : Int} {B : Nat} (hre : Blk w4 B #[.int .i64 0, .string ⟨#[]⟩, .int .i64 0, .int .i64 0, .int .i64 0] 44) (hB : w.heap.size ≤ B) :
    let W := ((((w4.setCell ⟨B, 0, none⟩ (.int .i64 pl)).setCell ⟨B, 1, none⟩ (.string s)).setCell ⟨B, 2, none⟩ (.int .i64 tr)).setCell ⟨B, 3, none⟩ (.int .i64 nx)).setCell ⟨B, 4, none⟩ (.int .i64 td)
    Blk W B #[.int .i64 pl, .string s, .int .i64 tr, .int .i64 nx, .int .i64 td] 44 := by
  have := ((((hre.set 0 (.int .i64 pl)).set 1 (.string s)).set 2 (.int .i64 tr)).set 3 (.int .i64 nx)).set 4 (.int .i64 td)
  simpa using this
theorem Row.set5 {B : Nat} {w4 : World} {v : Value} {kk : Option ByteArray} (hrow : Row B w4 v kk) (b : Nat) (hB : b < B) (x0 x1 x2 x3 x4 : Value) :
    Row B (((((w4.setCell ⟨b, 0, none⟩ x0).setCell ⟨b, 1, none⟩ x1).setCell ⟨b, 2, none⟩ x2).setCell ⟨b, 3, none⟩ x3).setCell ⟨b, 4, none⟩ x4) v kk :=
  ((((hrow.setOther (a := ⟨_, 0, none⟩) hB _).setOther (a := ⟨_, 1, none⟩) hB _).setOther (a := ⟨_, 2, none⟩) hB _).setOther (a := ⟨_, 3, none⟩) hB _).setOther (a := ⟨_, 4, none⟩) hB _
theorem Chg.set5 {K : Nat → Prop} {a w : World} (h : Chg K a w) (b : Nat) (hb : b < a.heap.size → K b) (x0 x1 x2 x3 x4 : Value) :
    Chg K a (((((w.setCell ⟨b, 0, none⟩ x0).setCell ⟨b, 1, none⟩ x1).setCell ⟨b, 2, none⟩ x2).setCell ⟨b, 3, none⟩ x3).setCell ⟨b, 4, none⟩ x4) :=
  ((((h.setCell (p := ⟨b, 0, none⟩) hb x0).setCell (p := ⟨b, 1, none⟩) hb x1).setCell (p := ⟨b, 2, none⟩) hb x2).setCell (p := ⟨b, 3, none⟩) hb x3).setCell (p := ⟨b, 4, none⟩) hb x4
set_option maxHeartbeats 4000000 in
theorem end_any (m : JdMsg.Msg) (tb mb : Nat) (pl : Nat) (st s : ByteArray) (tr nx td : Int) (k : ByteArray) (c : UInt8) (x : Int) (q : Bool) (i : Nat) (nf : ByteArray) (ab ao : Nat) (w : World)
    (hs : Blk w tb #[.int .i64 pl, .string st, .int .i64 tr, .int .i64 nx, .int .i64 td] 44) (hm : Blk w mb (mcs m) 42) (hne : tb ≠ mb) (hat : ab ≠ tb)
    (hA : m.rA = some ⟨ab, ao, none⟩) (hpl : pl < m.rn) (hrn : m.rn ≤ 1000000) (hnf : w.cell? ⟨ab, ao + pl * 5 + 2, none⟩ = some (.string nf))
    (hk : Instr.findNow .string (.string k) tellEnts.toList 0 = some (some (i, .agg #[.string ⟨#[c]⟩, .int .i64 x, .bool q]))) (kk : Option ByteArray) (td2 : Int) (HK : Hid ((if made m nf td x c q false = true then some k else none) = kk)) (HT : Hid ((if made m nf td x c q false = true then bits .or .i64 td x else td) = td2)) :
    Calls Try.prog 15 #[.string s, .string k, .pointer (some ⟨tb, 0, none⟩), .pointer (some ⟨mb, 0, none⟩)] w fun e w' => ∃ v, e = .returned (.tuple #[.agg #[.int .i64 pl, .string s, .int .i64 tr, .int .i64 nx, .int .i64 td2], v, .int .i64 0]) ∧ Row w.heap.size w' v kk ∧ Chg (· = tb) w w' := by
  have HA := Lib.hid hA
  have HN := Lib.hid hnf
  have HM := Aside.mk hm
  have HS := Aside.mk hs
  have HAT := Lib.hid hat
  have HKK := Lib.hid hk
  have hab := World.block_lt_of_cell? w _ hnf
  simp only at hab
  have htb := hs.lt
  have hmb := hm.lt
  have g1 := hs.cell 1 _ rfl
  have g1f := hs.free 1
  have HNE := Lib.hid hne
  clear hA hnf hm hs hat hk
  go_enter Try.func15, Try.ntmps15
  go_wp2_with (first
    | (with_reducible refine load_blk (mb) 42 rfl _ rfl rfl (mcs m) 42 _ ((HM.out.setOther _ (Ne.symm HNE.out)).old _) Try.underlying42 rfl (by kernel_rfl) ?_; simp only [Act.put, List.setIfInBounds_toArray, List.set_cons_zero, List.set_cons_succ])
    | (go_at_call 16; refine (report_m m tb pl s tr nx td k false c x q i nf ab ao _ (by have := (HS.out.set 1 (.string s)).old (.cells #[.int .i64 0, .string ⟨#[]⟩, .int .i64 0, .int .i64 0, .int .i64 0] 44); simpa using this) HA.out hpl hrn (cell_next ((Below.refl _ _).alloc (Nat.le_refl _) _) ((World.cell?_setCell_other _ _ _ _ (by intro e; exact HAT.out (congrArg Addr.block e).symm)).trans HN.out)) HKK.out kk td2 HK HT).mono ?_; rintro e w4 ⟨v, rfl, hrow, hbk, hcg⟩; have c0 := hbk.cell 0 _ rfl; have c1 := hbk.cell 1 _ rfl; have c2 := hbk.cell 2 _ rfl; have c3 := hbk.cell 3 _ rfl; have c4 := hbk.cell 4 _ rfl; have hz := Blk.new (w := w.setCell ⟨tb, 1, none⟩ (.string s)) #[.int .i64 0, .string ⟨#[]⟩, .int .i64 0, .int .i64 0, .int .i64 0] 44; have hre : Blk _ w.heap.size _ _ := Blk.chg (by simpa [World.setCell] using hz) hcg (by show ¬ (_ = _); omega); have d0 := hre.cell 0 _ rfl; have d1 := hre.cell 1 _ rfl; have d2 := hre.cell 2 _ rfl; have d3 := hre.cell 3 _ rfl; have d4 := hre.cell 4 _ rfl; have e0 := hre.free 0; have e1 := hre.free 1; have e2 := hre.free 2; have e3 := hre.free 3; have e4 := hre.free 4; replace hre := Aside.mk hre; replace hrow := Aside.mk hrow; replace hcg := Aside.mk hcg; clear hbk hz))
  have f1 := fin_end (w := w) hre.out (Nat.le_refl _) (pl := pl) (s := s) (tr := tr) (nx := nx) (td := td2)
  refine bodyPost_ret (results_cell_tt_row rfl _ _ w.heap.size _ #[.int .i64 pl, .string s, .int .i64 tr, .int .i64 nx, .int .i64 td2] _ rfl f1 Try.underlying44 rfl (by kernel_rfl)) rfl ⟨v, rfl, ?_, ?_⟩
  · exact (hrow.out.set5 _ (by simp [World.setCell]) _ _ _ _ _).mono (by simp [World.setCell])
  · refine Chg.set5 ?_ _ (fun h => absurd h (Nat.lt_irrefl _)) _ _ _ _ _
    exact (((Chg.refl (· = tb) w).setCell (p := ⟨tb, 1, none⟩) (fun _ => rfl) _).alloc _).trans hcg.out (fun i _ h => h)
end Go.Proofs.Ytojmcejkfeaccaa
