/-
  Commands, as they come in.
-/
import Derived.Test.YtllhbcpbihhdnaaGreatDoorQ5
import Derived.Test.YtllhbcpbihhdnaaGreatDoorRows
import Derived.Deep.Strs
import Derived.OpenShut
import Derived.ProofKit
import Derived.SizedLaws
import Derived.Lib.SmallJoins
set_option linter.unusedVariables false
set_option linter.unusedSimpArgs false
namespace Go.Proofs.YtllhbcpbihhdnaaGreatDoor
open Go.RowKit Go.ChangeShapes Go.WideShapes Go.ChangeAt Go.Joins Pm
set_option maxRecDepth 100000
def MlIn (m : Ml) : Prop := (Lit.int .i64 m.s).wf = true ∧ (Lit.int .i64 m.f).wf = true ∧ (Lit.int .i64 m.u).wf = true ∧ (Lit.int .i64 m.b).wf = true ∧ (Lit.int .i64 m.p).wf = true ∧ m.body.size ≤ reachBytes ∧ m.ret.size ≤ reachBytes ∧ m.envid.size ≤ reachBytes ∧ m.mode.size ≤ reachBytes
def RcIn (r : Rc) : Prop := r.nt.size ≤ reachBytes ∧ r.kd.size ≤ reachBytes ∧ r.oc.size ≤ reachBytes
structure Hs where
  h0 : Bool
  h1 : Bool
  h2 : Bool
  h3 : Bool
  h4 : Bool
def Hs.cells (h : Hs) : Array Value := #[.bool h.h0, .bool h.h1, .bool h.h2, .bool h.h3, .bool h.h4]
structure Pth where
  lo : List UInt8
  dm : List UInt8
def Pth.cells (p : Pth) : Array Value := #[.string (Cm.tx p.lo), .string (Cm.tx p.dm)]
section
variable {H : Type} {enc : TypeId × Value → H} {w : World} {base : Nat} {spare : Nat → Bool} {held : Bool}
theorem has_of_trod {m : Nat} {l : List Value} (hl : l.length = 5) {x : DataW H × List MemPlace} (hm : DataW.trod enc Tryz.prog w base spare held m 25 l = some x) (hz : ∀ n ∈ x.1.weights Tryz.prog 25, n ≤ reachBytes) :
    ∃ v : Hs, l = v.cells.toList ∧ True := by
  obtain ⟨d, p⟩ := x
  obtain ⟨xs, n, _, hx, _, hlen, hg⟩ := DataW.trod_struct Tryz.underlying25 hm
  have e_0 : Tryz.prog.cellsOf 4 = 1 := by kernel_rfl
  match l, hl with
  | [c0, c1, c2, c3, c4], _ =>
  match xs, hlen with
  | [y0, y1, y2, y3, y4], _ =>
    have g0 : DataW.trod enc Tryz.prog w base spare held n 4 (([c0, c1, c2, c3, c4].drop 0).take (Tryz.prog.cellsOf 4)) = some y0 := hg 0 _ rfl
    rw [e_0] at g0
    have g1 : DataW.trod enc Tryz.prog w base spare held n 4 (([c0, c1, c2, c3, c4].drop 1).take (Tryz.prog.cellsOf 4)) = some y1 := hg 1 _ rfl
    rw [e_0] at g1
    have g2 : DataW.trod enc Tryz.prog w base spare held n 4 (([c0, c1, c2, c3, c4].drop 2).take (Tryz.prog.cellsOf 4)) = some y2 := hg 2 _ rfl
    rw [e_0] at g2
    have g3 : DataW.trod enc Tryz.prog w base spare held n 4 (([c0, c1, c2, c3, c4].drop 3).take (Tryz.prog.cellsOf 4)) = some y3 := hg 3 _ rfl
    rw [e_0] at g3
    have g4 : DataW.trod enc Tryz.prog w base spare held n 4 (([c0, c1, c2, c3, c4].drop 4).take (Tryz.prog.cellsOf 4)) = some y4 := hg 4 _ rfl
    rw [e_0] at g4
    obtain ⟨b0, eb0, _⟩ := DataW.trod_bool Tryz.underlying4 g0
    have k0 : c0 = .bool b0 := by simpa using eb0
    subst k0
    obtain ⟨b1, eb1, _⟩ := DataW.trod_bool Tryz.underlying4 g1
    have k1 : c1 = .bool b1 := by simpa using eb1
    subst k1
    obtain ⟨b2, eb2, _⟩ := DataW.trod_bool Tryz.underlying4 g2
    have k2 : c2 = .bool b2 := by simpa using eb2
    subst k2
    obtain ⟨b3, eb3, _⟩ := DataW.trod_bool Tryz.underlying4 g3
    have k3 : c3 = .bool b3 := by simpa using eb3
    subst k3
    obtain ⟨b4, eb4, _⟩ := DataW.trod_bool Tryz.underlying4 g4
    have k4 : c4 = .bool b4 := by simpa using eb4
    subst k4
    simp only [Prod.mk.injEq] at hx
    have hd : d = .agg [y0.1, y1.1, y2.1, y3.1, y4.1] := by
      rw [hx.1]
      rfl
    refine ⟨⟨b0, b1, b2, b3, b4⟩, ?_, trivial⟩
    rfl
theorem path_of_trod {m : Nat} {l : List Value} (hl : l.length = 2) {x : DataW H × List MemPlace} (hm : DataW.trod enc Tryz.prog w base spare held m 23 l = some x) (hz : ∀ n ∈ x.1.weights Tryz.prog 23, n ≤ reachBytes) :
    ∃ v : Pth, l = v.cells.toList ∧ v.lo.length ≤ reachBytes ∧ v.dm.length ≤ reachBytes := by
  obtain ⟨d, p⟩ := x
  obtain ⟨xs, n, _, hx, _, hlen, hg⟩ := DataW.trod_struct Tryz.underlying23 hm
  have e_0 : Tryz.prog.cellsOf 9 = 1 := by kernel_rfl
  match l, hl with
  | [c0, c1], _ =>
  match xs, hlen with
  | [y0, y1], _ =>
    have g0 : DataW.trod enc Tryz.prog w base spare held n 9 (([c0, c1].drop 0).take (Tryz.prog.cellsOf 9)) = some y0 := hg 0 _ rfl
    rw [e_0] at g0
    have g1 : DataW.trod enc Tryz.prog w base spare held n 9 (([c0, c1].drop 1).take (Tryz.prog.cellsOf 9)) = some y1 := hg 1 _ rfl
    rw [e_0] at g1
    obtain ⟨s0, es0, ds0, _⟩ := DataW.trod_string Tryz.underlying9 g0
    have k0 : c0 = .string s0 := by simpa using es0
    subst k0
    obtain ⟨s1, es1, ds1, _⟩ := DataW.trod_string Tryz.underlying9 g1
    have k1 : c1 = .string s1 := by simpa using es1
    subst k1
    simp only [Prod.mk.injEq] at hx
    have hd : d = .agg [(DataW.lit (.string s0.data.toList)), (DataW.lit (.string s1.data.toList))] := by
      rw [hx.1, ds0, ds1]
      rfl
    have z0 : s0.size ≤ reachBytes := by
      refine Nat.le_trans (Nat.le_of_eq (by simp)) (hz s0.data.toList.length ?_)
      show _ ∈ d.weights Tryz.prog 23
      rw [hd]
      unfold DataW.weights
      rw [Tryz.underlying23]
      exact DataW.weights_mem_each (show ([9, 9] : List TypeId)[0]? = some 9 by rfl) (show [(DataW.lit (.string s0.data.toList)), (DataW.lit (.string s1.data.toList))][0]? = some (DataW.lit (.string s0.data.toList)) by rfl) _ (by simp [DataW.weights])
    have z1 : s1.size ≤ reachBytes := by
      refine Nat.le_trans (Nat.le_of_eq (by simp)) (hz s1.data.toList.length ?_)
      show _ ∈ d.weights Tryz.prog 23
      rw [hd]
      unfold DataW.weights
      rw [Tryz.underlying23]
      exact DataW.weights_mem_each (show ([9, 9] : List TypeId)[1]? = some 9 by rfl) (show [(DataW.lit (.string s0.data.toList)), (DataW.lit (.string s1.data.toList))][1]? = some (DataW.lit (.string s1.data.toList)) by rfl) _ (by simp [DataW.weights])
    refine ⟨⟨s0.data.toList, s1.data.toList⟩, ?_, by simpa using z0, by simpa using z1⟩
    show _ = [Value.string (Cm.tx _), Value.string (Cm.tx _)]
    rw [Cm.tx_of, Cm.tx_of]
theorem mail_of_trod {m : Nat} {l : List Value} (hl : l.length = 14) {x : DataW H × List MemPlace} (hm : DataW.trod enc Tryz.prog w base spare held m 27 l = some x) (hz : ∀ n ∈ x.1.weights Tryz.prog 27, n ≤ reachBytes) :
    ∃ v : Ml, l = v.cells.toList ∧ (Lit.int .i64 v.s).wf = true ∧ (Lit.int .i64 v.f).wf = true ∧ (Lit.int .i64 v.u).wf = true ∧ (Lit.int .i64 v.b).wf = true ∧ (Lit.int .i64 v.p).wf = true ∧ v.body.size ≤ reachBytes ∧ v.ret.size ≤ reachBytes ∧ v.envid.size ≤ reachBytes ∧ v.mode.size ≤ reachBytes := by
  obtain ⟨d, p⟩ := x
  obtain ⟨xs, n, _, hx, _, hlen, hg⟩ := DataW.trod_struct Tryz.underlying27 hm
  have e_0 : Tryz.prog.cellsOf 25 = 5 := by kernel_rfl
  have e_1 : Tryz.prog.cellsOf 3 = 1 := by kernel_rfl
  have e_6 : Tryz.prog.cellsOf 9 = 1 := by kernel_rfl
  match l, hl with
  | [c0, c1, c2, c3, c4, c5, c6, c7, c8, c9, c10, c11, c12, c13], _ =>
  match xs, hlen with
  | [y0, y1, y2, y3, y4, y5, y6, y7, y8, y9], _ =>
    have g0 : DataW.trod enc Tryz.prog w base spare held n 25 (([c0, c1, c2, c3, c4, c5, c6, c7, c8, c9, c10, c11, c12, c13].drop 0).take (Tryz.prog.cellsOf 25)) = some y0 := hg 0 _ rfl
    rw [e_0] at g0
    have g1 : DataW.trod enc Tryz.prog w base spare held n 3 (([c0, c1, c2, c3, c4, c5, c6, c7, c8, c9, c10, c11, c12, c13].drop 5).take (Tryz.prog.cellsOf 3)) = some y1 := hg 1 _ rfl
    rw [e_1] at g1
    have g2 : DataW.trod enc Tryz.prog w base spare held n 3 (([c0, c1, c2, c3, c4, c5, c6, c7, c8, c9, c10, c11, c12, c13].drop 6).take (Tryz.prog.cellsOf 3)) = some y2 := hg 2 _ rfl
    rw [e_1] at g2
    have g3 : DataW.trod enc Tryz.prog w base spare held n 3 (([c0, c1, c2, c3, c4, c5, c6, c7, c8, c9, c10, c11, c12, c13].drop 7).take (Tryz.prog.cellsOf 3)) = some y3 := hg 3 _ rfl
    rw [e_1] at g3
    have g4 : DataW.trod enc Tryz.prog w base spare held n 3 (([c0, c1, c2, c3, c4, c5, c6, c7, c8, c9, c10, c11, c12, c13].drop 8).take (Tryz.prog.cellsOf 3)) = some y4 := hg 4 _ rfl
    rw [e_1] at g4
    have g5 : DataW.trod enc Tryz.prog w base spare held n 3 (([c0, c1, c2, c3, c4, c5, c6, c7, c8, c9, c10, c11, c12, c13].drop 9).take (Tryz.prog.cellsOf 3)) = some y5 := hg 5 _ rfl
    rw [e_1] at g5
    have g6 : DataW.trod enc Tryz.prog w base spare held n 9 (([c0, c1, c2, c3, c4, c5, c6, c7, c8, c9, c10, c11, c12, c13].drop 10).take (Tryz.prog.cellsOf 9)) = some y6 := hg 6 _ rfl
    rw [e_6] at g6
    have g7 : DataW.trod enc Tryz.prog w base spare held n 9 (([c0, c1, c2, c3, c4, c5, c6, c7, c8, c9, c10, c11, c12, c13].drop 11).take (Tryz.prog.cellsOf 9)) = some y7 := hg 7 _ rfl
    rw [e_6] at g7
    have g8 : DataW.trod enc Tryz.prog w base spare held n 9 (([c0, c1, c2, c3, c4, c5, c6, c7, c8, c9, c10, c11, c12, c13].drop 12).take (Tryz.prog.cellsOf 9)) = some y8 := hg 8 _ rfl
    rw [e_6] at g8
    have g9 : DataW.trod enc Tryz.prog w base spare held n 9 (([c0, c1, c2, c3, c4, c5, c6, c7, c8, c9, c10, c11, c12, c13].drop 13).take (Tryz.prog.cellsOf 9)) = some y9 := hg 9 _ rfl
    rw [e_6] at g9
    obtain ⟨i1, ei1, _, wi1⟩ := DataW.trod_int Tryz.underlying3 g1
    have k1 : c5 = .int .i64 i1 := by simpa using ei1
    subst k1
    obtain ⟨i2, ei2, _, wi2⟩ := DataW.trod_int Tryz.underlying3 g2
    have k2 : c6 = .int .i64 i2 := by simpa using ei2
    subst k2
    obtain ⟨i3, ei3, _, wi3⟩ := DataW.trod_int Tryz.underlying3 g3
    have k3 : c7 = .int .i64 i3 := by simpa using ei3
    subst k3
    obtain ⟨i4, ei4, _, wi4⟩ := DataW.trod_int Tryz.underlying3 g4
    have k4 : c8 = .int .i64 i4 := by simpa using ei4
    subst k4
    obtain ⟨i5, ei5, _, wi5⟩ := DataW.trod_int Tryz.underlying3 g5
    have k5 : c9 = .int .i64 i5 := by simpa using ei5
    subst k5
    obtain ⟨s6, es6, ds6, _⟩ := DataW.trod_string Tryz.underlying9 g6
    have k6 : c10 = .string s6 := by simpa using es6
    subst k6
    obtain ⟨s7, es7, ds7, _⟩ := DataW.trod_string Tryz.underlying9 g7
    have k7 : c11 = .string s7 := by simpa using es7
    subst k7
    obtain ⟨s8, es8, ds8, _⟩ := DataW.trod_string Tryz.underlying9 g8
    have k8 : c12 = .string s8 := by simpa using es8
    subst k8
    obtain ⟨s9, es9, ds9, _⟩ := DataW.trod_string Tryz.underlying9 g9
    have k9 : c13 = .string s9 := by simpa using es9
    subst k9
    simp only [Prod.mk.injEq] at hx
    have hd : d = .agg [y0.1, y1.1, y2.1, y3.1, y4.1, y5.1, (DataW.lit (.string s6.data.toList)), (DataW.lit (.string s7.data.toList)), (DataW.lit (.string s8.data.toList)), (DataW.lit (.string s9.data.toList))] := by
      rw [hx.1, ds6, ds7, ds8, ds9]
      rfl
    have hz0 : ∀ n ∈ y0.1.weights Tryz.prog 25, n ≤ reachBytes := fun n hn => hz n (by
      show _ ∈ d.weights Tryz.prog 27
      rw [hd]
      unfold DataW.weights
      rw [Tryz.underlying27]
      exact DataW.weights_mem_each (show ([25, 3, 3, 3, 3, 3, 9, 9, 9, 9] : List TypeId)[0]? = some 25 by rfl) (show [y0.1, y1.1, y2.1, y3.1, y4.1, y5.1, (DataW.lit (.string s6.data.toList)), (DataW.lit (.string s7.data.toList)), (DataW.lit (.string s8.data.toList)), (DataW.lit (.string s9.data.toList))][0]? = some y0.1 by rfl) n hn)
    have z6 : s6.size ≤ reachBytes := by
      refine Nat.le_trans (Nat.le_of_eq (by simp)) (hz s6.data.toList.length ?_)
      show _ ∈ d.weights Tryz.prog 27
      rw [hd]
      unfold DataW.weights
      rw [Tryz.underlying27]
      exact DataW.weights_mem_each (show ([25, 3, 3, 3, 3, 3, 9, 9, 9, 9] : List TypeId)[6]? = some 9 by rfl) (show [y0.1, y1.1, y2.1, y3.1, y4.1, y5.1, (DataW.lit (.string s6.data.toList)), (DataW.lit (.string s7.data.toList)), (DataW.lit (.string s8.data.toList)), (DataW.lit (.string s9.data.toList))][6]? = some (DataW.lit (.string s6.data.toList)) by rfl) _ (by simp [DataW.weights])
    have z7 : s7.size ≤ reachBytes := by
      refine Nat.le_trans (Nat.le_of_eq (by simp)) (hz s7.data.toList.length ?_)
      show _ ∈ d.weights Tryz.prog 27
      rw [hd]
      unfold DataW.weights
      rw [Tryz.underlying27]
      exact DataW.weights_mem_each (show ([25, 3, 3, 3, 3, 3, 9, 9, 9, 9] : List TypeId)[7]? = some 9 by rfl) (show [y0.1, y1.1, y2.1, y3.1, y4.1, y5.1, (DataW.lit (.string s6.data.toList)), (DataW.lit (.string s7.data.toList)), (DataW.lit (.string s8.data.toList)), (DataW.lit (.string s9.data.toList))][7]? = some (DataW.lit (.string s7.data.toList)) by rfl) _ (by simp [DataW.weights])
    have z8 : s8.size ≤ reachBytes := by
      refine Nat.le_trans (Nat.le_of_eq (by simp)) (hz s8.data.toList.length ?_)
      show _ ∈ d.weights Tryz.prog 27
      rw [hd]
      unfold DataW.weights
      rw [Tryz.underlying27]
      exact DataW.weights_mem_each (show ([25, 3, 3, 3, 3, 3, 9, 9, 9, 9] : List TypeId)[8]? = some 9 by rfl) (show [y0.1, y1.1, y2.1, y3.1, y4.1, y5.1, (DataW.lit (.string s6.data.toList)), (DataW.lit (.string s7.data.toList)), (DataW.lit (.string s8.data.toList)), (DataW.lit (.string s9.data.toList))][8]? = some (DataW.lit (.string s8.data.toList)) by rfl) _ (by simp [DataW.weights])
    have z9 : s9.size ≤ reachBytes := by
      refine Nat.le_trans (Nat.le_of_eq (by simp)) (hz s9.data.toList.length ?_)
      show _ ∈ d.weights Tryz.prog 27
      rw [hd]
      unfold DataW.weights
      rw [Tryz.underlying27]
      exact DataW.weights_mem_each (show ([25, 3, 3, 3, 3, 3, 9, 9, 9, 9] : List TypeId)[9]? = some 9 by rfl) (show [y0.1, y1.1, y2.1, y3.1, y4.1, y5.1, (DataW.lit (.string s6.data.toList)), (DataW.lit (.string s7.data.toList)), (DataW.lit (.string s8.data.toList)), (DataW.lit (.string s9.data.toList))][9]? = some (DataW.lit (.string s9.data.toList)) by rfl) _ (by simp [DataW.weights])
    obtain ⟨v0, ev0, hv0⟩ := has_of_trod (l := [c0, c1, c2, c3, c4]) rfl (x := y0) g0 hz0
    refine ⟨⟨v0.h0, v0.h1, v0.h2, v0.h3, v0.h4, i1, i2, i3, i4, i5, s6, s7, s8, s9⟩, ?_, wi1, wi2, wi3, wi4, wi5, z6, z7, z8, z9⟩
    show [c0, c1, c2, c3, c4] ++ [.int .i64 i1] ++ [.int .i64 i2] ++ [.int .i64 i3] ++ [.int .i64 i4] ++ [.int .i64 i5] ++ [.string s6] ++ [.string s7] ++ [.string s8] ++ [.string s9] = _
    rw [ev0]
    rfl
theorem rcpt_of_trod {m : Nat} {l : List Value} (hl : l.length = 3) {x : DataW H × List MemPlace} (hm : DataW.trod enc Tryz.prog w base spare held m 29 l = some x) (hz : ∀ n ∈ x.1.weights Tryz.prog 29, n ≤ reachBytes) :
    ∃ v : Rc, l = v.cells.toList ∧ v.nt.size ≤ reachBytes ∧ v.kd.size ≤ reachBytes ∧ v.oc.size ≤ reachBytes := by
  obtain ⟨d, p⟩ := x
  obtain ⟨xs, n, _, hx, _, hlen, hg⟩ := DataW.trod_struct Tryz.underlying29 hm
  have e_0 : Tryz.prog.cellsOf 9 = 1 := by kernel_rfl
  match l, hl with
  | [c0, c1, c2], _ =>
  match xs, hlen with
  | [y0, y1, y2], _ =>
    have g0 : DataW.trod enc Tryz.prog w base spare held n 9 (([c0, c1, c2].drop 0).take (Tryz.prog.cellsOf 9)) = some y0 := hg 0 _ rfl
    rw [e_0] at g0
    have g1 : DataW.trod enc Tryz.prog w base spare held n 9 (([c0, c1, c2].drop 1).take (Tryz.prog.cellsOf 9)) = some y1 := hg 1 _ rfl
    rw [e_0] at g1
    have g2 : DataW.trod enc Tryz.prog w base spare held n 9 (([c0, c1, c2].drop 2).take (Tryz.prog.cellsOf 9)) = some y2 := hg 2 _ rfl
    rw [e_0] at g2
    obtain ⟨s0, es0, ds0, _⟩ := DataW.trod_string Tryz.underlying9 g0
    have k0 : c0 = .string s0 := by simpa using es0
    subst k0
    obtain ⟨s1, es1, ds1, _⟩ := DataW.trod_string Tryz.underlying9 g1
    have k1 : c1 = .string s1 := by simpa using es1
    subst k1
    obtain ⟨s2, es2, ds2, _⟩ := DataW.trod_string Tryz.underlying9 g2
    have k2 : c2 = .string s2 := by simpa using es2
    subst k2
    simp only [Prod.mk.injEq] at hx
    have hd : d = .agg [(DataW.lit (.string s0.data.toList)), (DataW.lit (.string s1.data.toList)), (DataW.lit (.string s2.data.toList))] := by
      rw [hx.1, ds0, ds1, ds2]
      rfl
    have z0 : s0.size ≤ reachBytes := by
      refine Nat.le_trans (Nat.le_of_eq (by simp)) (hz s0.data.toList.length ?_)
      show _ ∈ d.weights Tryz.prog 29
      rw [hd]
      unfold DataW.weights
      rw [Tryz.underlying29]
      exact DataW.weights_mem_each (show ([9, 9, 9] : List TypeId)[0]? = some 9 by rfl) (show [(DataW.lit (.string s0.data.toList)), (DataW.lit (.string s1.data.toList)), (DataW.lit (.string s2.data.toList))][0]? = some (DataW.lit (.string s0.data.toList)) by rfl) _ (by simp [DataW.weights])
    have z1 : s1.size ≤ reachBytes := by
      refine Nat.le_trans (Nat.le_of_eq (by simp)) (hz s1.data.toList.length ?_)
      show _ ∈ d.weights Tryz.prog 29
      rw [hd]
      unfold DataW.weights
      rw [Tryz.underlying29]
      exact DataW.weights_mem_each (show ([9, 9, 9] : List TypeId)[1]? = some 9 by rfl) (show [(DataW.lit (.string s0.data.toList)), (DataW.lit (.string s1.data.toList)), (DataW.lit (.string s2.data.toList))][1]? = some (DataW.lit (.string s1.data.toList)) by rfl) _ (by simp [DataW.weights])
    have z2 : s2.size ≤ reachBytes := by
      refine Nat.le_trans (Nat.le_of_eq (by simp)) (hz s2.data.toList.length ?_)
      show _ ∈ d.weights Tryz.prog 29
      rw [hd]
      unfold DataW.weights
      rw [Tryz.underlying29]
      exact DataW.weights_mem_each (show ([9, 9, 9] : List TypeId)[2]? = some 9 by rfl) (show [(DataW.lit (.string s0.data.toList)), (DataW.lit (.string s1.data.toList)), (DataW.lit (.string s2.data.toList))][2]? = some (DataW.lit (.string s2.data.toList)) by rfl) _ (by simp [DataW.weights])
    refine ⟨⟨s0, s1, s2⟩, ?_, z0, z1, z2⟩
    rfl
theorem cmd_of_trod {m : Nat} {l : List Value} (hl : l.length = 21) {x : DataW H × List MemPlace} (hm : DataW.trod enc Tryz.prog w base spare held m 31 l = some x) (hz : ∀ n ∈ x.1.weights Tryz.prog 31, n ≤ reachBytes) :
    ∃ v : Cm.Cmd, l = v.cells.toList ∧ v.verb.length ≤ reachBytes ∧ v.arg.length ≤ reachBytes ∧ v.lo.length ≤ reachBytes ∧ v.dm.length ≤ reachBytes ∧ MlIn v.ml ∧ RcIn v.rc := by
  obtain ⟨d, p⟩ := x
  obtain ⟨xs, n, _, hx, _, hlen, hg⟩ := DataW.trod_struct Tryz.underlying31 hm
  have e_0 : Tryz.prog.cellsOf 9 = 1 := by kernel_rfl
  have e_2 : Tryz.prog.cellsOf 23 = 2 := by kernel_rfl
  have e_3 : Tryz.prog.cellsOf 27 = 14 := by kernel_rfl
  have e_4 : Tryz.prog.cellsOf 29 = 3 := by kernel_rfl
  match l, hl with
  | [c0, c1, c2, c3, c4, c5, c6, c7, c8, c9, c10, c11, c12, c13, c14, c15, c16, c17, c18, c19, c20], _ =>
  match xs, hlen with
  | [y0, y1, y2, y3, y4], _ =>
    have g0 : DataW.trod enc Tryz.prog w base spare held n 9 (([c0, c1, c2, c3, c4, c5, c6, c7, c8, c9, c10, c11, c12, c13, c14, c15, c16, c17, c18, c19, c20].drop 0).take (Tryz.prog.cellsOf 9)) = some y0 := hg 0 _ rfl
    rw [e_0] at g0
    have g1 : DataW.trod enc Tryz.prog w base spare held n 9 (([c0, c1, c2, c3, c4, c5, c6, c7, c8, c9, c10, c11, c12, c13, c14, c15, c16, c17, c18, c19, c20].drop 1).take (Tryz.prog.cellsOf 9)) = some y1 := hg 1 _ rfl
    rw [e_0] at g1
    have g2 : DataW.trod enc Tryz.prog w base spare held n 23 (([c0, c1, c2, c3, c4, c5, c6, c7, c8, c9, c10, c11, c12, c13, c14, c15, c16, c17, c18, c19, c20].drop 2).take (Tryz.prog.cellsOf 23)) = some y2 := hg 2 _ rfl
    rw [e_2] at g2
    have g3 : DataW.trod enc Tryz.prog w base spare held n 27 (([c0, c1, c2, c3, c4, c5, c6, c7, c8, c9, c10, c11, c12, c13, c14, c15, c16, c17, c18, c19, c20].drop 4).take (Tryz.prog.cellsOf 27)) = some y3 := hg 3 _ rfl
    rw [e_3] at g3
    have g4 : DataW.trod enc Tryz.prog w base spare held n 29 (([c0, c1, c2, c3, c4, c5, c6, c7, c8, c9, c10, c11, c12, c13, c14, c15, c16, c17, c18, c19, c20].drop 18).take (Tryz.prog.cellsOf 29)) = some y4 := hg 4 _ rfl
    rw [e_4] at g4
    obtain ⟨s0, es0, ds0, _⟩ := DataW.trod_string Tryz.underlying9 g0
    have k0 : c0 = .string s0 := by simpa using es0
    subst k0
    obtain ⟨s1, es1, ds1, _⟩ := DataW.trod_string Tryz.underlying9 g1
    have k1 : c1 = .string s1 := by simpa using es1
    subst k1
    simp only [Prod.mk.injEq] at hx
    have hd : d = .agg [(DataW.lit (.string s0.data.toList)), (DataW.lit (.string s1.data.toList)), y2.1, y3.1, y4.1] := by
      rw [hx.1, ds0, ds1]
      rfl
    have z0 : s0.size ≤ reachBytes := by
      refine Nat.le_trans (Nat.le_of_eq (by simp)) (hz s0.data.toList.length ?_)
      show _ ∈ d.weights Tryz.prog 31
      rw [hd]
      unfold DataW.weights
      rw [Tryz.underlying31]
      exact DataW.weights_mem_each (show ([9, 9, 23, 27, 29] : List TypeId)[0]? = some 9 by rfl) (show [(DataW.lit (.string s0.data.toList)), (DataW.lit (.string s1.data.toList)), y2.1, y3.1, y4.1][0]? = some (DataW.lit (.string s0.data.toList)) by rfl) _ (by simp [DataW.weights])
    have z1 : s1.size ≤ reachBytes := by
      refine Nat.le_trans (Nat.le_of_eq (by simp)) (hz s1.data.toList.length ?_)
      show _ ∈ d.weights Tryz.prog 31
      rw [hd]
      unfold DataW.weights
      rw [Tryz.underlying31]
      exact DataW.weights_mem_each (show ([9, 9, 23, 27, 29] : List TypeId)[1]? = some 9 by rfl) (show [(DataW.lit (.string s0.data.toList)), (DataW.lit (.string s1.data.toList)), y2.1, y3.1, y4.1][1]? = some (DataW.lit (.string s1.data.toList)) by rfl) _ (by simp [DataW.weights])
    have hz2 : ∀ n ∈ y2.1.weights Tryz.prog 23, n ≤ reachBytes := fun n hn => hz n (by
      show _ ∈ d.weights Tryz.prog 31
      rw [hd]
      unfold DataW.weights
      rw [Tryz.underlying31]
      exact DataW.weights_mem_each (show ([9, 9, 23, 27, 29] : List TypeId)[2]? = some 23 by rfl) (show [(DataW.lit (.string s0.data.toList)), (DataW.lit (.string s1.data.toList)), y2.1, y3.1, y4.1][2]? = some y2.1 by rfl) n hn)
    have hz3 : ∀ n ∈ y3.1.weights Tryz.prog 27, n ≤ reachBytes := fun n hn => hz n (by
      show _ ∈ d.weights Tryz.prog 31
      rw [hd]
      unfold DataW.weights
      rw [Tryz.underlying31]
      exact DataW.weights_mem_each (show ([9, 9, 23, 27, 29] : List TypeId)[3]? = some 27 by rfl) (show [(DataW.lit (.string s0.data.toList)), (DataW.lit (.string s1.data.toList)), y2.1, y3.1, y4.1][3]? = some y3.1 by rfl) n hn)
    have hz4 : ∀ n ∈ y4.1.weights Tryz.prog 29, n ≤ reachBytes := fun n hn => hz n (by
      show _ ∈ d.weights Tryz.prog 31
      rw [hd]
      unfold DataW.weights
      rw [Tryz.underlying31]
      exact DataW.weights_mem_each (show ([9, 9, 23, 27, 29] : List TypeId)[4]? = some 29 by rfl) (show [(DataW.lit (.string s0.data.toList)), (DataW.lit (.string s1.data.toList)), y2.1, y3.1, y4.1][4]? = some y4.1 by rfl) n hn)
    obtain ⟨v2, ev2, hv2⟩ := path_of_trod (l := [c2, c3]) rfl (x := y2) g2 hz2
    obtain ⟨v3, ev3, hv3⟩ := mail_of_trod (l := [c4, c5, c6, c7, c8, c9, c10, c11, c12, c13, c14, c15, c16, c17]) rfl (x := y3) g3 hz3
    obtain ⟨v4, ev4, hv4⟩ := rcpt_of_trod (l := [c18, c19, c20]) rfl (x := y4) g4 hz4
    refine ⟨⟨s0.data.toList, s1.data.toList, v2.lo, v2.dm, v3, v4⟩, ?_, by simpa using z0, by simpa using z1, hv2.1, hv2.2, hv3, hv4⟩
    show [.string s0] ++ [.string s1] ++ [c2, c3] ++ [c4, c5, c6, c7, c8, c9, c10, c11, c12, c13, c14, c15, c16, c17] ++ [c18, c19, c20] = _
    rw [ev2, ev3, ev4]
    show _ = [Value.string (Cm.tx s0.data.toList), Value.string (Cm.tx s1.data.toList)] ++ v2.cells.toList ++ v3.cells.toList ++ v4.cells.toList
    rw [Cm.tx_of, Cm.tx_of]
    rfl
theorem open_cmd {r : Reach} {b0 : Nat} {v : Value} {d : DataW H} {p : List MemPlace}
    (hv : Value.okWide Tryz.prog w r b0 31 v) (hz : ∀ n ∈ d.weights Tryz.prog 31, n ≤ reachBytes) (h : DataW.Trod enc Tryz.prog w base spare held 31 v d p) :
    ∃ c : Cm.Cmd, v = .agg c.cells ∧ c.verb.length ≤ reachBytes ∧ c.arg.length ≤ reachBytes ∧ c.lo.length ≤ reachBytes ∧ c.dm.length ≤ reachBytes ∧ MlIn c.ml ∧ RcIn c.rc := by
  obtain ⟨cs, rfl, hsz⟩ := okWide_struct Tryz.underlying31 hv
  rw [show Tryz.prog.cellsOf 31 = 21 by kernel_rfl] at hsz
  obtain ⟨fuel, hf⟩ := h
  obtain ⟨c, hc, h1⟩ := cmd_of_trod (l := cs.toList) (by simpa using hsz) (x := (d, p)) hf hz
  exact ⟨c, by rw [Array.toList_inj.1 hc], h1⟩
end
end Go.Proofs.YtllhbcpbihhdnaaGreatDoor
