/-
  The plain side of the package reply: classes, enhanced codes, lines.
-/
import Derived.Lib.ItoaNum
import Derived.Lib.AtoiAll
import Derived.Test.YtfeedokfcebjjaaDoorTok
set_option linter.unusedVariables false
set_option linter.unusedSimpArgs false
namespace Rp
open Go.Lib
/-- A code's class. -/
def cls (c : Int) : Int := if c < 200 ∨ 599 < c then 0 else c / 100
theorem cls_01 (c : Int) : cls c = 0 ∨ 2 ≤ cls c ∧ cls c ≤ 5 ∧ 200 ≤ c ∧ c ≤ 599 := by unfold cls; split <;> omega
def none3 (a b c : Int) : Bool := decide (a = 0 ∧ b = 0 ∧ c = 0)
/-- May an enhanced code be a code's? -/
def fits (code a b c : Int) : Bool := none3 a b c || decide (a = cls code ∧ a ≠ 3 ∧ 0 ≤ b ∧ b ≤ 999 ∧ 0 ≤ c ∧ c ≤ 999)
theorem none3_iff {a b c : Int} : none3 a b c = true ↔ a = 0 ∧ b = 0 ∧ c = 0 := by simp [none3]
theorem none3_not {a b c : Int} (h : none3 a b c = false) : ¬ (a = 0 ∧ b = 0 ∧ c = 0) := by simpa [none3] using h
theorem fits_iff {code a b c : Int} : fits code a b c = true ↔ (a = 0 ∧ b = 0 ∧ c = 0) ∨ (a = cls code ∧ a ≠ 3 ∧ 0 ≤ b ∧ b ≤ 999 ∧ 0 ≤ c ∧ c ≤ 999) := by simp [fits, none3]
/-- A sign that is shown. -/
def vis (c : UInt8) : Bool := decide (32 ≤ c.toNat ∧ c.toNat ≤ 126)
def shown (l : List UInt8) : Bool := l.all vis
/-- An enhanced code, and a blank. -/
def enh (a b c : Int) : List UInt8 := if none3 a b c = true then [] else itoa a ++ [46] ++ itoa b ++ [46] ++ itoa c ++ [32]
/-- Is a text too long for a line? -/
def big (a b c : Int) (s : ByteArray) : Bool := decide (510 < 4 + ((enh a b c).length : Int) + s.size)
/-- What is wrong with a reply's texts. -/
def rest (a b c : Int) (t : List ByteArray) : Int :=
  if t.all (fun s => shown s.data.toList) = false then 2
  else if decide (t.length < 1 ∨ 32 < t.length) || t.any (big a b c) then 3 else 0
theorem rest_2 {a b c : Int} {t : List ByteArray} (h : t.all (fun s => shown s.data.toList) = false) : rest a b c t = 2 := by unfold rest; rw [if_pos h]
theorem rest_3 {a b c : Int} {t : List ByteArray} (h : t.all (fun s => shown s.data.toList) = true) (h' : (decide (t.length < 1 ∨ 32 < t.length) || t.any (big a b c)) = true) : rest a b c t = 3 := by unfold rest; rw [if_neg (by rw [h]; simp), if_pos h']
theorem rest_0 {a b c : Int} {t : List ByteArray} (h : t.all (fun s => shown s.data.toList) = true) (h' : (decide (t.length < 1 ∨ 32 < t.length) || t.any (big a b c)) = false) : rest a b c t = 0 := by unfold rest; rw [if_neg (by rw [h]; simp), if_neg (by rw [h']; simp)]
def right (code a b c : Int) (t : List ByteArray) : Int := if cls code = 0 ∨ fits code a b c = false then 1 else rest a b c t
/-- A number, in just the digits that it is printed in. -/
def canon (p : List UInt8) : Option Int := match atoiAll p with
  | .ok v => if itoa v = p then some v else none
  | _ => none
theorem canon_some {p : List UInt8} {v : Int} (h : canon p = some v) : atoiAll p = .ok v ∧ itoa v = p := by
  unfold canon at h
  split at h
  · rename_i u hu
    by_cases e : itoa u = p
    · rw [if_pos e] at h; cases h; exact ⟨hu, e⟩
    · rw [if_neg e] at h; cases h
  · cases h
theorem canon_none {p : List UInt8} (h : canon p = none) : (∀ v, atoiAll p ≠ .ok v) ∨ ∃ v, atoiAll p = .ok v ∧ itoa v ≠ p := by
  unfold canon at h
  split at h
  · rename_i u hu
    by_cases e : itoa u = p
    · rw [if_pos e] at h; cases h
    · exact .inr ⟨u, hu, e⟩
  · rename_i hu
    exact .inl hu
theorem atoi_range {p : List UInt8} {v : Int} (h : atoiAll p = .ok v) : -9223372036854775808 ≤ v ∧ v ≤ 9223372036854775807 := by
  unfold atoiAll at h
  split at h
  · cases h
  · rename_i c r
    simp only at h
    split at h
    · cases h
    · cases h
    · split at h
      · cases h
      · split at h
        · cases h
        · rename_i h1 h2
          cases h
          split
          · rename_i h3
            simp [h3] at h2
            omega
          · rename_i h3
            simp [h3] at h1
            omega
/-- Three parts, and what is behind the blank, as an enhanced code of a code. -/
def rdOf (code : Int) (rest : List UInt8) (p q r : List UInt8) : Int × Int × Int × List UInt8 × Bool :=
  match canon p, canon q, canon r with
  | some a, some b, some c => if none3 a b c = true ∨ fits code a b c = false then (0, 0, 0, [], false) else (a, b, c, rest, true)
  | _, _, _ => (0, 0, 0, [], false)
theorem rdOf_none0 {code : Int} {rest p q r : List UInt8} (h : canon p = none) : rdOf code rest p q r = (0, 0, 0, [], false) := by unfold rdOf; rw [h]
theorem rdOf_none1 {code : Int} {rest p q r : List UInt8} (h : canon q = none) : rdOf code rest p q r = (0, 0, 0, [], false) := by unfold rdOf; rw [h]; cases canon p <;> rfl
theorem rdOf_none2 {code : Int} {rest p q r : List UInt8} (h : canon r = none) : rdOf code rest p q r = (0, 0, 0, [], false) := by unfold rdOf; rw [h]; cases canon p <;> cases canon q <;> rfl
theorem rdOf_bad {code : Int} {rest p q r : List UInt8} {a b c : Int} (h0 : canon p = some a) (h1 : canon q = some b) (h2 : canon r = some c) (h : none3 a b c = true ∨ fits code a b c = false) : rdOf code rest p q r = (0, 0, 0, [], false) := by
  unfold rdOf; rw [h0, h1, h2]; simp only; rw [if_pos h]
theorem rdOf_good {code : Int} {rest p q r : List UInt8} {a b c : Int} (h0 : canon p = some a) (h1 : canon q = some b) (h2 : canon r = some c) (h : none3 a b c = false) (h' : fits code a b c = true) : rdOf code rest p q r = (a, b, c, rest, true) := by
  unfold rdOf; rw [h0, h1, h2]; simp only; rw [if_neg (by rw [h, h']; simp)]
def rd3 (code : Int) (rest : List UInt8) (ok : Bool) (ps : List (List UInt8)) : Int × Int × Int × List UInt8 × Bool :=
  match ok, ps with
  | true, [p, q, r] => rdOf code rest p q r
  | _, _ => (0, 0, 0, [], false)
/-- What is read at the front of a text: an enhanced code of a code, and what is behind. -/
def rd (code : Int) (s : List UInt8) : Int × Int × Int × List UInt8 × Bool := rd3 code (Tok.cut 32 s).2.1 (Tok.cut 32 s).2.2 (Tok.split 46 (Tok.cut 32 s).1)
theorem rd3_not {code : Int} {rest : List UInt8} {ok : Bool} {ps : List (List UInt8)} (h : ¬ (ok = true ∧ ps.length = 3)) : rd3 code rest ok ps = (0, 0, 0, [], false) := by
  unfold rd3
  split
  · exact absurd ⟨rfl, rfl⟩ h
  · rfl
/-- The enhanced code of the first text. -/
def fst3 (code : Int) (t : List ByteArray) : Int × Int × Int := match t with
  | [] => (0, 0, 0)
  | s :: _ => ((rd code s.data.toList).1, (rd code s.data.toList).2.1, (rd code s.data.toList).2.2.1)
/-- Does a text begin with just this enhanced code? -/
def good (code : Int) (f : Int × Int × Int) (s : ByteArray) : Bool := (rd code s.data.toList).2.2.2.2 && decide ((rd code s.data.toList).1 = f.1 ∧ (rd code s.data.toList).2.1 = f.2.1 ∧ (rd code s.data.toList).2.2.1 = f.2.2)
def behind (code : Int) (s : ByteArray) : ByteArray := ⟨(rd code s.data.toList).2.2.2.1.toArray⟩
end Rp
