/-
  The plain side of reply.Parse: a line's code, its sign, what is behind.
-/
import Derived.Test.YtfeedokfcebjjaaDoorRpCal
import Derived.Lib.SlTrimSet
set_option linter.unusedVariables false
set_option linter.unusedSimpArgs false
namespace Rp
open Go.Lib
def dgt (c : UInt8) : Bool := decide (48 ≤ c.toNat ∧ c.toNat ≤ 57)
def digs : List UInt8 := [48, 49, 50, 51, 52, 53, 54, 55, 56, 57]
theorem digs_has (c : UInt8) : digs.contains c = dgt c := by
  have h : ∀ i : Fin 256, digs.contains (UInt8.ofNat i.val) = dgt (UInt8.ofNat i.val) := by decide +kernel
  have := h ⟨c.toNat, c.toNat_lt⟩
  simpa using this
/-- The number that three digits are. -/
def val3 (x y z : UInt8) : Int := 100 * ((x.toNat : Int) - 48) + 10 * ((y.toNat : Int) - 48) + ((z.toNat : Int) - 48)
/-- A line's code: 0, where it begins with no three digits. -/
def code (s : List UInt8) : Int := match s with
  | x :: y :: z :: _ => if dgt x && dgt y && dgt z then val3 x y z else 0
  | _ => 0
theorem code_short {s : List UInt8} (h : s.length < 3) : code s = 0 := by
  unfold code
  split
  · simp at h; omega
  · rfl
theorem code_range (s : List UInt8) (h : ∀ x y z, (dgt x && dgt y && dgt z) = true → 0 ≤ val3 x y z ∧ val3 x y z ≤ 999) : 0 ≤ code s ∧ code s ≤ 999 := by
  unfold code
  split
  · split
    · rename_i h1; exact h _ _ _ h1
    · omega
  · omega
/-- Is it the last line? -/
def last (s : List UInt8) : Bool := match s with
  | _ :: _ :: _ :: r => match r with
    | [] => true
    | c :: _ => c == 32
  | _ => false
/-- Is its sign wrong? -/
def sgn (s : List UInt8) : Bool := match s with
  | _ :: _ :: _ :: c :: _ => !(c == 32) && !(c == 45)
  | _ => false
/-- What is wrong with a line, the i-th, behind lines of the code cd. -/
def bad (i : Nat) (cd : Int) (s : List UInt8) : Int :=
  if cls (code s) = 0 ∨ (0 < i ∧ code s ≠ cd) ∨ sgn s = true ∨ shown s = false then 2 else if 510 < s.length ∨ 32 ≤ i then 3 else 0
theorem bad_2 {i : Nat} {cd : Int} {s : List UInt8} (h : cls (code s) = 0 ∨ (0 < i ∧ code s ≠ cd) ∨ sgn s = true ∨ shown s = false) : bad i cd s = 2 := by unfold bad; rw [if_pos h]
theorem bad_3 {i : Nat} {cd : Int} {s : List UInt8} (h0 : cls (code s) ≠ 0) (h1 : 0 < i → code s = cd) (h2 : sgn s = false) (h3 : shown s = true) (h : 510 < s.length ∨ 32 ≤ i) : bad i cd s = 3 := by
  unfold bad; rw [if_neg, if_pos h]
  rintro (q | ⟨q, r⟩ | q | q)
  · exact h0 q
  · exact r (h1 q)
  · rw [h2] at q; cases q
  · rw [h3] at q; cases q
theorem bad_0 {i : Nat} {cd : Int} {s : List UInt8} (h0 : cls (code s) ≠ 0) (h1 : 0 < i → code s = cd) (h2 : sgn s = false) (h3 : shown s = true) (h : s.length ≤ 510) (h' : i < 32) : bad i cd s = 0 := by
  unfold bad; rw [if_neg, if_neg (by omega)]
  rintro (q | ⟨q, r⟩ | q | q)
  · exact h0 q
  · exact r (h1 q)
  · rw [h2] at q; cases q
  · rw [h3] at q; cases q
/-- The first lines' end: what is wrong, how many they are, and their code. -/
def prs (i : Nat) (cd : Int) : List ByteArray → Int × Nat × Int
  | [] => (12, 0, 0)
  | s :: r => if bad i cd s.data.toList ≠ 0 then (bad i cd s.data.toList, 0, 0) else if last s.data.toList = true then (0, i + 1, code s.data.toList) else prs (i + 1) (code s.data.toList) r
theorem prs_bad {i : Nat} {cd : Int} {s : ByteArray} {r : List ByteArray} {x : Int} (h : bad i cd s.data.toList = x) (hx : x ≠ 0) : prs i cd (s :: r) = (x, 0, 0) := by rw [prs, h, if_pos hx]
theorem prs_last {i : Nat} {cd : Int} {s : ByteArray} {r : List ByteArray} (h : bad i cd s.data.toList = 0) (hl : last s.data.toList = true) : prs i cd (s :: r) = (0, i + 1, code s.data.toList) := by rw [prs, h, if_neg (by simp), if_pos hl]
theorem prs_more {i : Nat} {cd : Int} {s : ByteArray} {r : List ByteArray} (h : bad i cd s.data.toList = 0) (hl : last s.data.toList = false) : prs i cd (s :: r) = prs (i + 1) (code s.data.toList) r := by rw [prs, h, if_neg (by simp), if_neg (by rw [hl]; simp)]
/-- What a line says. -/
def say (s : ByteArray) : ByteArray := ⟨(s.data.toList.drop 4).toArray⟩
theorem say_4 {s : ByteArray} (h : 4 ≤ s.size) : s.extract 4 s.size = say s := by
  apply ByteArray.ext
  apply Array.toList_inj.1
  have hl : s.data.toList.length = s.size := by simp
  simp [say]
  rw [List.take_of_length_le (by simp)]
theorem say_3 {s : ByteArray} (h : s.size = 3) : s.extract 3 s.size = say s := by
  apply ByteArray.ext
  apply Array.toList_inj.1
  have hl : s.data.toList.length = 3 := by simpa using h
  simp only [say]
  rw [List.drop_eq_nil_of_le (by omega)]
  simp [h]
theorem say_size (s : ByteArray) : (say s).size ≤ s.size := by
  have : (say s).size = (s.data.toList.drop 4).length := by
    show (⟨(s.data.toList.drop 4).toArray⟩ : ByteArray).data.size = _
    rw [List.size_toArray]
  rw [this, List.length_drop]
  have hl : s.data.toList.length = s.size := by simp
  omega
/-- What the first lines are: their enhanced code, and texts. -/
def body (code : Int) (t : List ByteArray) : (Int × Int × Int) × List ByteArray := if t.all (good code (fst3 code t)) = true then (fst3 code t, t.map (behind code)) else ((0, 0, 0), t)
theorem trim3 (x y z : UInt8) : trimS [x, y, z] digs = [] ↔ (dgt x && dgt y && dgt z) = true := by
  simp only [trimS, trimRightS, trimLeftS, digs_has]
  cases hx : dgt x <;> cases hy : dgt y <;> cases hz : dgt z <;> simp [List.dropWhile, hx, hy, hz]
theorem atoi3 (x y z : UInt8) (h : (dgt x && dgt y && dgt z) = true) : atoiAll [x, y, z] = .ok (val3 x y z) := by
  simp only [dgt, Bool.and_eq_true, decide_eq_true_eq] at h
  obtain ⟨⟨hx, hy⟩, hz⟩ := h
  unfold atoiAll
  simp only
  rw [if_neg (by omega)]
  unfold parseMag
  rw [if_neg (by simp)]
  simp only [parseUint10]
  rw [if_pos hx, if_neg (by omega), if_neg (by omega), if_pos hy, if_neg (by omega), if_neg (by omega), if_pos hz, if_neg (by omega), if_neg (by omega)]
  simp only
  rw [if_neg (by omega), if_neg (by omega), if_neg (by omega)]
  congr 1
  unfold val3
  omega
theorem val3_range (x y z : UInt8) (h : (dgt x && dgt y && dgt z) = true) : 0 ≤ val3 x y z ∧ val3 x y z ≤ 999 := by
  simp only [dgt, Bool.and_eq_true, decide_eq_true_eq] at h
  unfold val3
  omega
end Rp
