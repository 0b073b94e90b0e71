/-
  ParamOrder: true of whatever comes in.
-/
import Derived.Test.YtfffdbjfhdkheaaGreatDoorQPmOr2
import Derived.Test.YtfffdbjfhdkheaaGreatDoorQPmBack
set_option linter.unusedVariables false
set_option linter.unusedSimpArgs false
namespace Go.Proofs.YtfffdbjfhdkheaaGreatDoor
open Go.RowKit Go.Shelf Pm
set_option maxRecDepth 100000
set_option maxHeartbeats 4000000 in
theorem order_out (s : ByteArray) (k : Int) (h : 3000 < s.size ∨ k < 0) (hs : s.size ≤ 140737488351232) (w : World) (hl : Lv w) : Calls Tryz.prog 5 #[.string s, .int .i64 k] w fun e w' => e = .returned (.bool true) ∧ Below w.heap.size w w' := by
  have haw := fun W (hW : Lv W) => awake_any W hW
  have L : Aside (Below w.heap.size w w) := ⟨Below.refl _ _⟩
  by_cases hb : 3000 < s.size
  · have hs2 : decide ((3000 : Int) < (s.size : Int)) = true := decide_eq_true (by omega)
    go_enter Tryz.func5, Tryz.ntmps5
    go_wp2_with (first | (go_at_call 7; (with_reducible refine (haw _ (hl.next L.out)).mono ?_); rintro e w_ ⟨rfl, hb_⟩; replace L := Aside.mk (L.out.trans (hb_.mono L.out.size)); clear hb_))
    go_ret
    exact ⟨rfl, L.out⟩
  · have hs2 : decide ((3000 : Int) < (s.size : Int)) = false := decide_eq_false (by omega)
    have hk3 : decide (k < 0) = true := decide_eq_true (by omega)
    go_enter Tryz.func5, Tryz.ntmps5
    go_wp2_with (first | (go_at_call 7; (with_reducible refine (haw _ (hl.next L.out)).mono ?_); rintro e w_ ⟨rfl, hb_⟩; replace L := Aside.mk (L.out.trans (hb_.mono L.out.size)); clear hb_))
    go_ret
    exact ⟨rfl, L.out⟩
theorem order_row (W : World) (hl : Lv W) (s : ByteArray) (hs : s.size ≤ 140737488351232) (k : Int) (wf : (Lit.int .i64 k).wf = true) :
    Calls Tryz.prog 5 #[.string s, .int .i64 k] W fun e w' => e = .returned (.bool true) ∧ Below W.heap.size W w' := by
  by_cases h : 3000 < s.size ∨ k < 0
  · exact order_out s k h hs W hl
  · by_cases hne : s = ⟨#[]⟩
    · subst hne
      exact order_empty k (by omega) W hl
    · obtain ⟨x, hx⟩ : ∃ x, Pm.parseMail s = x := ⟨_, rfl⟩
      obtain ⟨x, ex⟩ := x
      obtain ⟨y, hy⟩ : ∃ y, Pm.parseRcpt s = y := ⟨_, rfl⟩
      obtain ⟨y, ey⟩ := y
      by_cases c1 : ex = 0 <;> by_cases c2 : ey = 0
      · exact order_w11 s (by omega) hne k (by omega) (i64_wf wf) x ex hx y ey hy c1 c2 W hl
      · exact order_w10 s (by omega) hne k (by omega) (i64_wf wf) x ex hx y ey hy c1 c2 W hl
      · exact order_w01 s (by omega) hne k (by omega) (i64_wf wf) x ex hx y ey hy c1 c2 W hl
      · exact order_w00 s (by omega) hne k (by omega) (i64_wf wf) x ex hx y ey hy c1 c2 W hl
end Go.Proofs.YtfffdbjfhdkheaaGreatDoor
