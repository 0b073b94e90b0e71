/-
  What is said of a message, and of a recipient, as it comes in.
-/
import Derived.Test.YtfffdbjfhdkheaaGreatDoorQ2
import Derived.Test.YtfffdbjfhdkheaaGreatDoorRows
import Derived.Deep.Strs
import Derived.OpenShut
import Derived.ProofKit
import Derived.SizedLaws
import Derived.Lib.SmallJoins
set_option linter.unusedVariables false
set_option linter.unusedSimpArgs false
namespace Go.Proofs.YtfffdbjfhdkheaaGreatDoor
open Go.RowKit Go.ChangeShapes Go.WideShapes Go.ChangeAt Go.Joins Pm
set_option maxRecDepth 100000
section
variable {H : Type} {enc : TypeId × Value → H} {w : World} {base : Nat} {spare : Nat → Bool} {held : Bool}
theorem has_of_trod {m : Nat} {b0 b1 b2 b3 b4 : Value} {x : DataW H × List MemPlace} (hm : DataW.trod enc Tryz.prog w base spare held m 23 [b0, b1, b2, b3, b4] = some x) :
    ∃ h0 h1 h2 h3 h4 : Bool, b0 = .bool h0 ∧ b1 = .bool h1 ∧ b2 = .bool h2 ∧ b3 = .bool h3 ∧ b4 = .bool h4 := by
  obtain ⟨xs, n, _, _, _, hlen, hg⟩ := DataW.trod_struct Tryz.underlying23 hm
  have h1 : Tryz.prog.cellsOf 4 = 1 := by kernel_rfl
  match xs, hlen with
  | [y0, y1, y2, y3, y4], _ =>
    have g0 : DataW.trod enc Tryz.prog w base spare held n 4 (([b0, b1, b2, b3, b4].drop 0).take (Tryz.prog.cellsOf 4)) = some y0 := hg 0 _ rfl
    rw [h1] at g0
    have g1 : DataW.trod enc Tryz.prog w base spare held n 4 (([b0, b1, b2, b3, b4].drop 1).take (Tryz.prog.cellsOf 4)) = some y1 := hg 1 _ rfl
    rw [h1] at g1
    have g2 : DataW.trod enc Tryz.prog w base spare held n 4 (([b0, b1, b2, b3, b4].drop 2).take (Tryz.prog.cellsOf 4)) = some y2 := hg 2 _ rfl
    rw [h1] at g2
    have g3 : DataW.trod enc Tryz.prog w base spare held n 4 (([b0, b1, b2, b3, b4].drop 3).take (Tryz.prog.cellsOf 4)) = some y3 := hg 3 _ rfl
    rw [h1] at g3
    have g4 : DataW.trod enc Tryz.prog w base spare held n 4 (([b0, b1, b2, b3, b4].drop 4).take (Tryz.prog.cellsOf 4)) = some y4 := hg 4 _ rfl
    rw [h1] at g4
    obtain ⟨h0, e0, _⟩ := DataW.trod_bool Tryz.underlying4 g0
    obtain ⟨h1, e1, _⟩ := DataW.trod_bool Tryz.underlying4 g1
    obtain ⟨h2, e2, _⟩ := DataW.trod_bool Tryz.underlying4 g2
    obtain ⟨h3, e3, _⟩ := DataW.trod_bool Tryz.underlying4 g3
    obtain ⟨h4, e4, _⟩ := DataW.trod_bool Tryz.underlying4 g4
    exact ⟨h0, h1, h2, h3, h4, by simpa using e0, by simpa using e1, by simpa using e2, by simpa using e3, by simpa using e4⟩
theorem open_mail {r : Reach} {b0 : Nat} {v : Value} {d : DataW H} {p : List MemPlace}
    (hv : Value.okWide Tryz.prog w r b0 25 v) (hz : ∀ n ∈ d.weights Tryz.prog 25, n ≤ reachBytes) (h : DataW.Trod enc Tryz.prog w base spare held 25 v d p) :
    ∃ m : Ml, v = .agg m.cells ∧ (Lit.int .i64 m.s).wf = true ∧ (Lit.int .i64 m.f).wf = true ∧ (Lit.int .i64 m.u).wf = true ∧ (Lit.int .i64 m.b).wf = true ∧ (Lit.int .i64 m.p).wf = true ∧ m.body.size ≤ reachBytes ∧ m.ret.size ≤ reachBytes ∧ m.envid.size ≤ reachBytes ∧ m.mode.size ≤ reachBytes := by
  obtain ⟨cs, rfl, hsz⟩ := okWide_struct Tryz.underlying25 hv
  have h14 : Tryz.prog.cellsOf 25 = 14 := by kernel_rfl
  have h5 : Tryz.prog.cellsOf 23 = 5 := by kernel_rfl
  have h1 : Tryz.prog.cellsOf 3 = 1 := by kernel_rfl
  have h1' : Tryz.prog.cellsOf 9 = 1 := by kernel_rfl
  rw [h14] at hsz
  rcases cs with ⟨l⟩
  match l, hsz with
  | [c0, c1, c2, c3, c4, c5, c6, c7, c8, c9, c10, c11, c12, c13], _ =>
    obtain ⟨fuel, hf⟩ := h
    obtain ⟨xs, n, _, hx, _, hlen, hg⟩ := DataW.trod_struct Tryz.underlying25 hf
    match xs, hlen with
    | [y0, y1, y2, y3, y4, y5, y6, y7, y8, y9], _ =>
      have g0 : DataW.trod enc Tryz.prog w base spare held n 23 (([c0, c1, c2, c3, c4, c5, c6, c7, c8, c9, c10, c11, c12, c13].drop 0).take (Tryz.prog.cellsOf 23)) = some y0 := hg 0 _ rfl
      rw [h5] at g0
      have g1 : DataW.trod enc Tryz.prog w base spare held n 3 (([c0, c1, c2, c3, c4, c5, c6, c7, c8, c9, c10, c11, c12, c13].drop 5).take (Tryz.prog.cellsOf 3)) = some y1 := hg 1 _ rfl
      rw [h1] at g1
      have g2 : DataW.trod enc Tryz.prog w base spare held n 3 (([c0, c1, c2, c3, c4, c5, c6, c7, c8, c9, c10, c11, c12, c13].drop 6).take (Tryz.prog.cellsOf 3)) = some y2 := hg 2 _ rfl
      rw [h1] at g2
      have g3 : DataW.trod enc Tryz.prog w base spare held n 3 (([c0, c1, c2, c3, c4, c5, c6, c7, c8, c9, c10, c11, c12, c13].drop 7).take (Tryz.prog.cellsOf 3)) = some y3 := hg 3 _ rfl
      rw [h1] at g3
      have g4 : DataW.trod enc Tryz.prog w base spare held n 3 (([c0, c1, c2, c3, c4, c5, c6, c7, c8, c9, c10, c11, c12, c13].drop 8).take (Tryz.prog.cellsOf 3)) = some y4 := hg 4 _ rfl
      rw [h1] at g4
      have g5 : DataW.trod enc Tryz.prog w base spare held n 3 (([c0, c1, c2, c3, c4, c5, c6, c7, c8, c9, c10, c11, c12, c13].drop 9).take (Tryz.prog.cellsOf 3)) = some y5 := hg 5 _ rfl
      rw [h1] at g5
      have g6 : DataW.trod enc Tryz.prog w base spare held n 9 (([c0, c1, c2, c3, c4, c5, c6, c7, c8, c9, c10, c11, c12, c13].drop 10).take (Tryz.prog.cellsOf 9)) = some y6 := hg 6 _ rfl
      rw [h1'] at g6
      have g7 : DataW.trod enc Tryz.prog w base spare held n 9 (([c0, c1, c2, c3, c4, c5, c6, c7, c8, c9, c10, c11, c12, c13].drop 11).take (Tryz.prog.cellsOf 9)) = some y7 := hg 7 _ rfl
      rw [h1'] at g7
      have g8 : DataW.trod enc Tryz.prog w base spare held n 9 (([c0, c1, c2, c3, c4, c5, c6, c7, c8, c9, c10, c11, c12, c13].drop 12).take (Tryz.prog.cellsOf 9)) = some y8 := hg 8 _ rfl
      rw [h1'] at g8
      have g9 : DataW.trod enc Tryz.prog w base spare held n 9 (([c0, c1, c2, c3, c4, c5, c6, c7, c8, c9, c10, c11, c12, c13].drop 13).take (Tryz.prog.cellsOf 9)) = some y9 := hg 9 _ rfl
      rw [h1'] at g9
      obtain ⟨q0, q1, q2, q3, q4, rfl, rfl, rfl, rfl, rfl⟩ := has_of_trod (b0 := c0) (b1 := c1) (b2 := c2) (b3 := c3) (b4 := c4) g0
      obtain ⟨i1, e1, _, w1⟩ := DataW.trod_int Tryz.underlying3 g1
      obtain ⟨i2, e2, _, w2⟩ := DataW.trod_int Tryz.underlying3 g2
      obtain ⟨i3, e3, _, w3⟩ := DataW.trod_int Tryz.underlying3 g3
      obtain ⟨i4, e4, _, w4⟩ := DataW.trod_int Tryz.underlying3 g4
      obtain ⟨i5, e5, _, w5⟩ := DataW.trod_int Tryz.underlying3 g5
      obtain ⟨s6, e6, d6, _⟩ := DataW.trod_string Tryz.underlying9 g6
      obtain ⟨s7, e7, d7, _⟩ := DataW.trod_string Tryz.underlying9 g7
      obtain ⟨s8, e8, d8, _⟩ := DataW.trod_string Tryz.underlying9 g8
      obtain ⟨s9, e9, d9, _⟩ := DataW.trod_string Tryz.underlying9 g9
      have k1 : c5 = .int .i64 i1 := by simpa using e1
      have k2 : c6 = .int .i64 i2 := by simpa using e2
      have k3 : c7 = .int .i64 i3 := by simpa using e3
      have k4 : c8 = .int .i64 i4 := by simpa using e4
      have k5 : c9 = .int .i64 i5 := by simpa using e5
      have k6 : c10 = .string s6 := by simpa using e6
      have k7 : c11 = .string s7 := by simpa using e7
      have k8 : c12 = .string s8 := by simpa using e8
      have k9 : c13 = .string s9 := by simpa using e9
      subst k1 k2 k3 k4 k5 k6 k7 k8 k9
      simp only [Prod.mk.injEq] at hx
      have hd : d = .agg [y0.1, y1.1, y2.1, y3.1, y4.1, y5.1, .lit (.string s6.data.toList), .lit (.string s7.data.toList), .lit (.string s8.data.toList), .lit (.string s9.data.toList)] := by
        rw [hx.1, d6, d7, d8, d9]
        rfl
      have hs : ∀ (k : Nat) (hk6 : 6 ≤ k) (hk10 : k < 10) (s : ByteArray), [y0.1, y1.1, y2.1, y3.1, y4.1, y5.1, .lit (.string s6.data.toList), .lit (.string s7.data.toList), .lit (.string s8.data.toList), .lit (.string s9.data.toList)][k]? = some (DataW.lit (.string s.data.toList)) → s.size ≤ reachBytes := by
        intro k hk6 hk10 s hk
        refine Nat.le_trans (Nat.le_of_eq (by simp)) (hz s.data.toList.length ?_)
        rw [hd]
        unfold DataW.weights
        rw [Tryz.underlying25]
        have ht : ∀ k : Nat, 6 ≤ k → k < 10 → ([23, 3, 3, 3, 3, 3, 9, 9, 9, 9] : List TypeId)[k]? = some 9 := by
          intro k h1 h2
          rcases (show k = 6 ∨ k = 7 ∨ k = 8 ∨ k = 9 by omega) with rfl | rfl | rfl | rfl <;> rfl
        exact DataW.weights_mem_each (ht k hk6 hk10) hk _ (by simp [DataW.weights])
      exact ⟨⟨q0, q1, q2, q3, q4, i1, i2, i3, i4, i5, s6, s7, s8, s9⟩, rfl, w1, w2, w3, w4, w5, hs 6 (by omega) (by omega) s6 rfl, hs 7 (by omega) (by omega) s7 rfl, hs 8 (by omega) (by omega) s8 rfl, hs 9 (by omega) (by omega) s9 rfl⟩
theorem open_rcpt {r : Reach} {b0 : Nat} {v : Value} {d : DataW H} {p : List MemPlace}
    (hv : Value.okWide Tryz.prog w r b0 27 v) (hz : ∀ n ∈ d.weights Tryz.prog 27, n ≤ reachBytes) (h : DataW.Trod enc Tryz.prog w base spare held 27 v d p) :
    ∃ m : Rc, v = .agg m.cells ∧ m.nt.size ≤ reachBytes ∧ m.kd.size ≤ reachBytes ∧ m.oc.size ≤ reachBytes := by
  obtain ⟨c0, c1, c2, y0, y1, y2, n, rfl, hd, _, h0, h1, h2⟩ := open_agg3 Tryz.underlying27 (by kernel_rfl) (by kernel_rfl) hv h
  obtain ⟨s0, e0, d0, _⟩ := DataW.trod_string Tryz.underlying9 h0
  obtain ⟨s1, e1, d1, _⟩ := DataW.trod_string Tryz.underlying9 h1
  obtain ⟨s2, e2, d2, _⟩ := DataW.trod_string Tryz.underlying9 h2
  simp only [List.cons.injEq, and_true] at e0 e1 e2
  subst e0 e1 e2
  rw [d0, d1, d2] at hd
  have hs : ∀ (k : Nat) (hk : k < 3) (s : ByteArray), [DataW.lit (.string s0.data.toList), DataW.lit (.string s1.data.toList), (DataW.lit (.string s2.data.toList) : DataW H)][k]? = some (DataW.lit (.string s.data.toList)) → s.size ≤ reachBytes := by
    intro k h3 s hk
    refine Nat.le_trans (Nat.le_of_eq (by simp)) (hz s.data.toList.length ?_)
    rw [hd]
    unfold DataW.weights
    rw [Tryz.underlying27]
    have ht : ∀ k : Nat, k < 3 → ([9, 9, 9] : List TypeId)[k]? = some 9 := by
      intro k h2
      rcases (show k = 0 ∨ k = 1 ∨ k = 2 by omega) with rfl | rfl | rfl <;> rfl
    exact DataW.weights_mem_each (ht k h3) hk _ (by simp [DataW.weights])
  exact ⟨⟨s0, s1, s2⟩, rfl, hs 0 (by omega) s0 rfl, hs 1 (by omega) s1 rfl, hs 2 (by omega) s2 rfl⟩
end
end Go.Proofs.YtfffdbjfhdkheaaGreatDoor
