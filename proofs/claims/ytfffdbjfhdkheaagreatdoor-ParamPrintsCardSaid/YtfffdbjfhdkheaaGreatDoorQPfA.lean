/-
  The reference of layer 5: its small functions.
-/
import Derived.Test.YtfffdbjfhdkheaaGreatDoorQByt
import Derived.Test.YtfffdbjfhdkheaaGreatDoorQPmRight
import Derived.Test.YtfffdbjfhdkheaaGreatDoorQPmTy
import Derived.Test.YtfffdbjfhdkheaaGreatDoorQ1
import Derived.Outline
import Derived.IntWalk
set_option linter.unusedVariables false
set_option linter.unusedSimpArgs false
namespace Go.Proofs.YtfffdbjfhdkheaaGreatDoor
open Go.RowKit Go.Shelf
set_option maxRecDepth 100000
namespace Pf
/-- A word behind a text, if it is said. -/
def more (s : ByteArray) (has : Bool) (w : ByteArray) : ByteArray := if has = false then s else if s.toList.isEmpty = true then w else s ++ ⟨#[32]⟩ ++ w
def wrong (has : Bool) (n lo hi : Int) : Int := if has = false then (if n = 0 then 0 else 2) else if n < lo ∨ hi < n then 1 else 0
end Pf
theorem more_any (s : ByteArray) (has : Bool) (v : ByteArray) (hs : s.size ≤ 1000000) (hv : v.size ≤ 1000000) (w : World) : Calls Tryz.prog 26 #[.string s, .bool has, .string v] w fun e w' => e = .returned (.string (Pf.more s has v)) ∧ w' = w := by
  have hA1 : ¬ 9223372036854775807 < s.size + 1 := by omega
  have hA2 : ¬ 9223372036854775807 < s.size + 1 + v.size := by omega
  cases has with
  | false =>
    go_enter Tryz.func26, Tryz.ntmps26
    go_wp2
    go_ret
    exact ⟨rfl, rfl⟩
  | true =>
    cases hE : s.toList.isEmpty with
    | true =>
      have e : Pf.more s true v = v := by unfold Pf.more; rw [hE]; rfl
      go_enter Tryz.func26, Tryz.ntmps26
      go_wp2
      go_ret
      exact ⟨by first | rfl | (rw [e]; rfl), rfl⟩
    | false =>
      have e : Pf.more s true v = s ++ ⟨#[32]⟩ ++ v := by unfold Pf.more; rw [hE]; rfl
      go_enter Tryz.func26, Tryz.ntmps26
      go_wp2
      go_ret
      exact ⟨by first | rfl | (rw [e]; rfl), rfl⟩
theorem wrong_any (has : Bool) (n lo hi : Int) (w : World) : Calls Tryz.prog 66 #[.bool has, .int .i64 n, .int .i64 lo, .int .i64 hi] w fun e w' => e = .returned (.int .i64 (Pf.wrong has n lo hi)) ∧ w' = w := by
  cases has with
  | false =>
    by_cases h : n = 0
    · have h1 : (n != 0) = false := by simp [h]
      have e : Pf.wrong false n lo hi = 0 := by unfold Pf.wrong; rw [if_pos rfl, if_pos h]
      clear h
      go_enter Tryz.func66, Tryz.ntmps66
      go_wp2
      go_ret
      exact ⟨by first | rfl | (rw [e]; rfl), rfl⟩
    · have h1 : (n != 0) = true := by simp [h]
      have e : Pf.wrong false n lo hi = 2 := by unfold Pf.wrong; rw [if_pos rfl, if_neg h]
      go_enter Tryz.func66, Tryz.ntmps66
      go_wp2
      go_ret
      exact ⟨by first | rfl | (rw [e]; rfl), rfl⟩
  | true =>
    by_cases h : n < lo
    · have h1 : decide (n < lo) = true := decide_eq_true h
      have e : Pf.wrong true n lo hi = 1 := by unfold Pf.wrong; rw [if_neg (by decide), if_pos (.inl h)]
      go_enter Tryz.func66, Tryz.ntmps66
      go_wp2
      go_ret
      exact ⟨by first | rfl | (rw [e]; rfl), rfl⟩
    · have h1 : decide (n < lo) = false := decide_eq_false h
      by_cases h2 : hi < n
      · have h3 : decide (hi < n) = true := decide_eq_true h2
        have e : Pf.wrong true n lo hi = 1 := by unfold Pf.wrong; rw [if_neg (by decide), if_pos (.inr h2)]
        go_enter Tryz.func66, Tryz.ntmps66
        go_wp2
        go_ret
        exact ⟨by first | rfl | (rw [e]; rfl), rfl⟩
      · have h3 : decide (hi < n) = false := decide_eq_false h2
        have e : Pf.wrong true n lo hi = 0 := by unfold Pf.wrong; rw [if_neg (by decide), if_neg (by omega)]
        go_enter Tryz.func66, Tryz.ntmps66
        go_wp2
        go_ret
        exact ⟨by first | rfl | (rw [e]; rfl), rfl⟩
theorem least_pos (s : ByteArray) (h : 0 < s.size) : Pm.least s = if s[0] = 82 then 1 else -999999999 := by
  obtain ⟨l⟩ := s
  obtain ⟨l⟩ := l
  cases l with
  | nil => exact absurd h (by decide)
  | cons x r =>
    unfold Pm.least
    show (if Lib.hasPrefix (x :: r) [82] = true then (1 : Int) else -999999999) = if x = 82 then 1 else -999999999
    have : Lib.hasPrefix (x :: r) [82] = true ↔ x = 82 := by unfold Lib.hasPrefix; simp; exact eq_comm
    by_cases hx : x = 82
    · rw [if_pos (this.2 hx), if_pos hx]
    · rw [if_neg (fun q => hx (this.1 q)), if_neg hx]
theorem refLeast_any (s : ByteArray) (w : World) : Calls Tryz.prog 67 #[.string s] w fun e w' => e = .returned (.int .i64 (Pm.least s)) ∧ w' = w := by
  by_cases h : 0 < s.size
  · have hl := least_pos s h
    obtain ⟨x, hx⟩ : ∃ x, s[0] = x := ⟨_, rfl⟩
    have h1 : decide ((0 : Int) < (s.size : Int)) = true := decide_eq_true (by omega)
    by_cases hc : x = 82
    · subst hc
      rw [if_pos hx] at hl
      go_enter Tryz.func67, Tryz.ntmps67
      go_wp2
      go_ret
      exact ⟨by first | rfl | (rw [hl]; rfl), rfl⟩
    · have hcb : ((x.toNat : Int) == 82) = false := by
        have : x.toNat ≠ 82 := fun e => hc (UInt8.toNat_inj.1 e)
        rw [beq_eq_false_iff_ne]
        omega
      rw [if_neg (by rw [hx]; exact hc)] at hl
      go_enter Tryz.func67, Tryz.ntmps67
      go_wp2
      go_ret
      exact ⟨by first | rfl | (rw [hl]; rfl), rfl⟩
  · have h1 : decide ((0 : Int) < (s.size : Int)) = false := decide_eq_false (by omega)
    have hl : Pm.least s = -999999999 := by
      have : s.data.toList = [] := by
        apply List.eq_nil_of_length_eq_zero
        have : s.data.toList.length = s.size := by simp
        omega
      unfold Pm.least
      rw [this]
      rfl
    go_enter Tryz.func67, Tryz.ntmps67
    go_wp2
    go_ret
    exact ⟨by first | rfl | (rw [hl]; rfl), rfl⟩
theorem refPlain_any (c : UInt8) (w : World) : Calls Tryz.prog 69 #[.int .u8 (c.toNat : Int)] w fun e w' => e = .returned (.bool (Txt.plain c)) ∧ w' = w := by
  have hp : Txt.plain c = (decide ((33 : Int) ≤ (c.toNat : Int)) && (decide ((c.toNat : Int) ≤ 126) && (((c.toNat : Int) != 43) && ((c.toNat : Int) != 61)))) := by
    rw [Bool.eq_iff_iff]
    unfold Txt.plain
    simp only [decide_eq_true_eq, Bool.and_eq_true, bne_iff_ne, ne_eq]
    omega
  generalize Txt.plain c = r at *
  generalize c.toNat = m at *
  cases b1 : decide ((33 : Int) ≤ (m : Int)) <;> cases b2 : decide ((m : Int) ≤ 126) <;> cases b3 : ((m : Int) != 43) <;> cases b4 : ((m : Int) != 61) <;>
    ( rw [b1, b2, b3, b4] at hp
      subst hp
      go_enter Tryz.func69, Tryz.ntmps69
      go_wp2
      go_ret
      exact ⟨rfl, rfl⟩)
theorem refSign_any (n : Nat) (hn : n < 16) (w : World) : Calls Tryz.prog 70 #[.int .u8 (n : Int)] w fun e w' => e = .returned (.int .u8 ((Tx.hex n).toNat : Int)) ∧ w' = w := by
  have hall : ∀ n : Fin 16, ((Tx.hex n.val).toNat : Int) = if n.val < 10 then 48 + (n.val : Int) else 55 + (n.val : Int) := by decide
  have hh := hall ⟨n, hn⟩
  simp only at hh
  by_cases h : n < 10
  · rw [if_pos h] at hh
    have h1 : decide ((n : Int) < 10) = true := decide_eq_true (by omega)
    have hw : IntKind.u8.wrap (48 + (n : Int)) = 48 + (n : Int) := IntWalk.u8_in _ (by omega)
    go_enter Tryz.func70, Tryz.ntmps70
    go_wp2
    go_ret
    exact ⟨by first | rfl | (rw [hh]; rfl), rfl⟩
  · rw [if_neg h] at hh
    have h1 : decide ((n : Int) < 10) = false := decide_eq_false (by omega)
    have hw : IntKind.u8.wrap (65 + (n : Int)) = 65 + (n : Int) := IntWalk.u8_in _ (by omega)
    have hw2 : IntKind.u8.wrap (65 + (n : Int) - 10) = 55 + (n : Int) := by rw [IntWalk.u8_in _ (by omega)]; omega
    go_enter Tryz.func70, Tryz.ntmps70
    go_wp2
    go_ret
    exact ⟨by first | rfl | (rw [hh]; rfl), rfl⟩
end Go.Proofs.YtfffdbjfhdkheaaGreatDoor
