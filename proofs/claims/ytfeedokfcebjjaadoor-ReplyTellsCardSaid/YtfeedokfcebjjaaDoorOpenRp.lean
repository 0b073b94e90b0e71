/-
  A reply, as it comes in.
-/
import Derived.Test.YtfeedokfcebjjaaDoorOpenTx
import Derived.Deep.Strs
import Derived.OpenShut
set_option linter.unusedVariables false
set_option linter.unusedSimpArgs false
namespace Go.Proofs.YtfeedokfcebjjaaDoor
open Go.RowKit Go.ChangeShapes Go.WideShapes Go.ChangeAt
set_option maxRecDepth 100000
theorem open_reply {H : Type} {enc : TypeId × Value → H} {w : World} {base : Nat} {spare : Nat → Bool} {held : Bool} {r : Reach} {b0 : Nat} {v : Value} {d : DataW H} {p : List MemPlace}
    (hv : Value.okWide Tryd.prog w r b0 25 v) (h : DataW.Trod enc Tryd.prog w base spare held 25 v d p) :
    ∃ (code a b c : Int) (A : Option Addr) (cp : Nat) (t : List ByteArray), v = .agg #[.int .i64 code, .int .i64 a, .int .i64 b, .int .i64 c, .slice A t.length cp] ∧ Strs w A t ∧ t.length ≤ 9223372036854775807 ∧ (∀ s ∈ t, s.size ≤ 9223372036854775807) ∧
      (Lit.int .i64 code).wf = true ∧ (Lit.int .i64 a).wf = true ∧ (Lit.int .i64 b).wf = true ∧ (Lit.int .i64 c).wf = true := by
  obtain ⟨cs, rfl, hsz⟩ := okWide_struct Tryd.underlying25 hv
  have h5 : Tryd.prog.cellsOf 25 = 5 := by kernel_rfl
  have h3 : Tryd.prog.cellsOf 23 = 3 := by kernel_rfl
  have h1 : Tryd.prog.cellsOf 3 = 1 := by kernel_rfl
  have h1' : Tryd.prog.cellsOf 22 = 1 := by kernel_rfl
  rw [h5] at hsz
  obtain ⟨c0, c1, c2, c3, c4, rfl⟩ : ∃ c0 c1 c2 c3 c4, cs = #[c0, c1, c2, c3, c4] := by
    rcases cs with ⟨l⟩
    match l, hsz with
    | [c0, c1, c2, c3, c4], _ => exact ⟨c0, c1, c2, c3, c4, rfl⟩
  obtain ⟨fuel, hf⟩ := h
  obtain ⟨y0, y1, y2, n, hx, _, k0, k1, k2⟩ := Go.Deep.trod_struct3 Tryd.underlying25 hf
  simp only [h1, h3, h1', Value.cells] at k0 k1 k2
  have k0' : DataW.trod enc Tryd.prog w base spare held n 3 [c0] = some y0 := k0
  have k1' : DataW.trod enc Tryd.prog w base spare held n 23 [c1, c2, c3] = some y1 := k1
  have k2' : DataW.trod enc Tryd.prog w base spare held n 22 [c4] = some y2 := k2
  obtain ⟨xs, m, _, _, _, hlen, he⟩ := DataW.trod_array Tryd.underlying23 k1'
  match xs, hlen with
  | [x0, x1, x2], _ =>
    have e0 := he 0 (by omega)
    have e1 := he 1 (by omega)
    have e2 := he 2 (by omega)
    simp only [h1] at e0 e1 e2
    have e0' : DataW.trod enc Tryd.prog w base spare held m 3 [c1] = some x0 := e0
    have e1' : DataW.trod enc Tryd.prog w base spare held m 3 [c2] = some x1 := e1
    have e2' : DataW.trod enc Tryd.prog w base spare held m 3 [c3] = some x2 := e2
    obtain ⟨code, q0, _, w0⟩ := DataW.trod_int Tryd.underlying3 k0'
    obtain ⟨a, q1, _, w1⟩ := DataW.trod_int Tryd.underlying3 e0'
    obtain ⟨b, q2, _, w2⟩ := DataW.trod_int Tryd.underlying3 e1'
    obtain ⟨c, q3, _, w3⟩ := DataW.trod_int Tryd.underlying3 e2'
    obtain ⟨A, cp, t, rfl, hS, hl, hs⟩ := texts_of_trod k2'
    injection q0 with q0
    injection q1 with q1
    injection q2 with q2
    injection q3 with q3
    subst q0 q1 q2 q3
    exact ⟨code, a, b, c, A, cp, t, rfl, hS, hl, hs, w0, w1, w2, w3⟩
end Go.Proofs.YtfeedokfcebjjaaDoor
