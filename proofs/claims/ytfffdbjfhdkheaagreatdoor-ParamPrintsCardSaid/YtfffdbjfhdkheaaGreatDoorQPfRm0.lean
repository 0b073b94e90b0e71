/-
  The reference of layer 5: RightMail.
-/
import Derived.Test.YtfffdbjfhdkheaaGreatDoorQPfRc
import Derived.Test.YtfffdbjfhdkheaaGreatDoorQPure
import Derived.Test.YtfffdbjfhdkheaaGreatDoorQPmLaw2
import Derived.Test.YtfffdbjfhdkheaaGreatDoorQPmBk0
import Derived.Test.YtfffdbjfhdkheaaGreatDoorQ1
import Derived.Test.YtfffdbjfhdkheaaGreatDoorQSlc
set_option linter.unusedVariables false
set_option linter.unusedSimpArgs false
namespace Go.Proofs.YtfffdbjfhdkheaaGreatDoor
open Go.RowKit Go.Shelf
set_option maxRecDepth 100000
section
variable {P : Program} {ops : Array Oper} {o : Oper} {a : Act} {w : World} {Q : Exit → Act → World → Prop} {K : Act → World → Prop} {E : Prop}
/-- A row stored, at a region that draws its order. -/
theorem store_step (hgd : o.guard = none) (T : TypeId) (x y : Operand) (ho : o.op = .store T x y) (b : Nat) (hx : a.eval x = .pointer (some ⟨b, 0, none⟩)) (c c' : Array Value) (t : TypeId) (hb : Blk w b c t) (hy : a.eval y = .agg c')
    (hs : c'.size = c.size) (hi : (P.info? T).map (·.size) = some c'.size) (h1 : c'.all (·.oneCell') = true)
    (h : ∀ w', Blk w' b c' t → Chg (fun k => k = b) w w' → K (a.put o.dst undef) w') : if Region.wanted o (yielded ops a.tmps) = true then Oper.wp P o a w K Q else E := by
  have hw : Region.wanted o (yielded ops a.tmps) = true := by unfold Region.wanted; rw [hgd]
  rw [if_pos hw]
  refine wp_store_mid T x y ho b 0 c' hx hy (blk_there hb _ hs) hi h1 ?_
  refine h _ ?_ (chg_setCells _ _ _)
  have := Blk.setCells c'.toList 0 hb
  rwa [setL_all hs] at this
end
namespace Pf
theorem among_cons (s : ByteArray) (l : List ByteArray) : Pm.among s l = Lib.containsS (⟨#[]⟩ :: l) s := by
  rw [Bool.eq_iff_iff, Pm.among_iff, Pm.contains_iff, List.mem_cons]
/-- The five tests of a message. -/
def tests (m : Pm.Ml) : Nat → Int
  | 0 => wrong m.hS m.s 0 999999999
  | 1 => wrong m.hF m.f 1 1048576
  | 2 => wrong m.hU m.u 0 253402300799
  | 3 => wrong m.hB m.b (Pm.least m.mode) 999999999
  | _ => wrong m.hP m.p (-9) 9
theorem at_args {P : Program} {f : FuncId} {w : World} {R : Ending → World → Prop} {A : Option Addr} (s : ByteArray) (n : Nat) (h : Calls P f #[.string s, .slice A n n] w R) : Calls P f #[.string s, .slice A n n] w R := h
theorem wrong_two (has : Bool) (n lo hi : Int) : wrong has n lo hi = 2 ↔ Pm.said has n = false := by
  unfold wrong Pm.said
  cases has with
  | false =>
    by_cases h : n = 0
    · simp [h]
    · simp [h]
  | true => simp; split <;> decide
theorem wrong_one (has : Bool) (n lo hi : Int) : wrong has n lo hi = 1 ↔ Pm.inn has n lo hi = false := by
  unfold wrong Pm.inn
  cases has with
  | false => simp; split <;> decide
  | true =>
    simp only [Bool.true_eq_false, if_false, Bool.not_true, Bool.false_or, Bool.and_eq_false_iff, decide_eq_false_iff_not]
    split
    · rename_i h; exact ⟨fun _ => by omega, fun _ => rfl⟩
    · rename_i h; exact ⟨fun q => absurd q (by decide), fun q => by omega⟩
/-- Does one of the tests come to v? -/
def hit (m : Pm.Ml) (v : Int) : Bool := decide (tests m 0 = v) || decide (tests m 1 = v) || decide (tests m 2 = v) || decide (tests m 3 = v) || decide (tests m 4 = v)
theorem hit_iff (m : Pm.Ml) (v : Int) : hit m v = true ↔ ∃ j, j < 5 ∧ tests m j = v := by
  unfold hit
  simp only [Bool.or_eq_true, decide_eq_true_eq]
  constructor
  · rintro ((((h | h) | h) | h) | h)
    · exact ⟨0, by omega, h⟩
    · exact ⟨1, by omega, h⟩
    · exact ⟨2, by omega, h⟩
    · exact ⟨3, by omega, h⟩
    · exact ⟨4, by omega, h⟩
  · rintro ⟨j, hj, h⟩
    match j, hj, h with
    | 0, _, h => exact .inl (.inl (.inl (.inl h)))
    | 1, _, h => exact .inl (.inl (.inl (.inr h)))
    | 2, _, h => exact .inl (.inl (.inr h))
    | 3, _, h => exact .inl (.inr h)
    | 4, _, h => exact .inr h
/-- As the program's right, by the tests. -/
theorem right_tests (m : Pm.Ml) : m.right =
    if hit m 2 = true then 2
    else if (Pm.among m.body [⟨#[55, 66, 73, 84]⟩, ⟨#[56, 66, 73, 84, 77, 73, 77, 69]⟩] && Pm.among m.ret [⟨#[70, 85, 76, 76]⟩, ⟨#[72, 68, 82, 83]⟩] && Pm.among m.mode [⟨#[82]⟩, ⟨#[78]⟩, ⟨#[82, 84]⟩, ⟨#[78, 84]⟩] && !(Pm.empty m.mode == m.hB)) = false then 2
    else if hit m 1 = true then 1 else if (100 : Int) < (m.envid.size : Int) then 3 else if (m.hF && m.hU) = true then 9 else 0 := by
  unfold Pm.Ml.right Pm.rightMail hit tests
  simp only [wrong_two, wrong_one]
  cases h0 : Pm.said m.hS m.s <;> cases h1 : Pm.said m.hF m.f <;> cases h2 : Pm.said m.hU m.u <;> cases h3 : Pm.said m.hB m.b <;> cases h4 : Pm.said m.hP m.p <;> simp
  all_goals (try split <;> rfl)
  all_goals (cases Pm.inn m.hS m.s 0 999999999 <;> cases Pm.inn m.hF m.f 1 1048576 <;> cases Pm.inn m.hU m.u 0 253402300799 <;> cases Pm.inn m.hB m.b (Pm.least m.mode) 999999999 <;> cases Pm.inn m.hP m.p (-9) 9 <;> simp)
end Pf
end Go.Proofs.YtfffdbjfhdkheaaGreatDoor
