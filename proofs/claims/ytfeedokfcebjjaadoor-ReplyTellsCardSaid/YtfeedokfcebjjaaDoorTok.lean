/-
  Texts cut, and split, at a byte: plain words and laws.
-/
import Derived.Lib.Split
import Derived.Lib.CountLaws
set_option linter.unusedVariables false
set_option linter.unusedSimpArgs false
namespace Tok
open Go.Lib
/-- What stands ahead of the first such byte, behind it, and is there one? -/
def cut (c : UInt8) : List UInt8 → List UInt8 × List UInt8 × Bool
  | [] => ([], [], false)
  | x :: l => if x = c then ([], l, true) else (x :: (cut c l).1, (cut c l).2.1, (cut c l).2.2)
theorem index_nonneg {l : List UInt8} {c : UInt8} : 0 ≤ indexByte l c ∨ indexByte l c = -1 := by have := indexByte_ge l c; omega
theorem cut_index (c : UInt8) (l : List UInt8) : (if 0 ≤ indexByte l c then (l.take (indexByte l c).toNat, l.drop ((indexByte l c).toNat + 1), true) else (l, [], false)) = cut c l := by
  induction l with
  | nil => simp [indexByte, cut]
  | cons x l ih =>
    unfold cut
    by_cases h : x = c
    · subst h
      simp [indexByte]
    · rw [if_neg h, ← ih]
      have hb : (x == c) = false := by simpa using h
      rcases index_nonneg (l := l) (c := c) with h0 | h0
      · have h1 : (indexByte l c == -1) = false := by simp; omega
        have e : indexByte (x :: l) c = indexByte l c + 1 := by simp [indexByte, hb, h1]
        have e2 : (indexByte l c + 1).toNat = (indexByte l c).toNat + 1 := by omega
        rw [e, if_pos (by omega), if_pos h0, e2]
        simp
      · have e : indexByte (x :: l) c = -1 := by simp [indexByte, hb, h0]
        rw [e, h0]
        simp
theorem cut_eq (c : UInt8) (l : List UInt8) : Go.Lib.cut l [c] = cut c l := by
  rw [← cut_index]
  unfold Go.Lib.cut
  rw [index_one]
  rfl
/-- The parts of a text between such bytes. -/
def split (c : UInt8) (l : List UInt8) : List (List UInt8) :=
  match l with
  | [] => [[]]
  | x :: l => if x = c then [] :: split c l else match split c l with
    | [] => [[x]]
    | p :: r => (x :: p) :: r
theorem split_ne (c : UInt8) (l : List UInt8) : split c l ≠ [] := by
  cases l with
  | nil => simp [split]
  | cons x l =>
    unfold split
    split
    · simp
    · split <;> simp
theorem split_no {c : UInt8} {l : List UInt8} (h : c ∉ l) : split c l = [l] := by
  induction l with
  | nil => rfl
  | cons x l ih =>
    simp only [List.mem_cons, not_or] at h
    unfold split
    rw [if_neg (fun e => h.1 e.symm), ih h.2]
theorem split_at {c : UInt8} {p : List UInt8} (r : List UInt8) (h : c ∉ p) : split c (p ++ c :: r) = p :: split c r := by
  induction p with
  | nil => show split c (c :: r) = _; rw [split, if_pos rfl]
  | cons x p ih =>
    simp only [List.mem_cons, not_or] at h
    show split c (x :: (p ++ c :: r)) = _
    rw [split, if_neg (fun e => h.1 e.symm), ih h.2]
theorem cut_at {c : UInt8} {p : List UInt8} (r : List UInt8) (h : c ∉ p) : cut c (p ++ c :: r) = (p, r, true) := by
  induction p with
  | nil => simp [cut]
  | cons x p ih =>
    simp only [List.mem_cons, not_or] at h
    simp only [List.cons_append, cut]
    rw [if_neg (fun e => h.1 e.symm), ih h.2]
theorem cut_no {c : UInt8} {l : List UInt8} (h : c ∉ l) : cut c l = (l, [], false) := by
  induction l with
  | nil => rfl
  | cons x l ih =>
    simp only [List.mem_cons, not_or] at h
    simp only [cut]
    rw [if_neg (fun e => h.1 e.symm), ih h.2]
/-- What a cut tells. -/
theorem cut_yes {c : UInt8} {l : List UInt8} (h : (cut c l).2.2 = true) : l = (cut c l).1 ++ c :: (cut c l).2.1 ∧ c ∉ (cut c l).1 := by
  induction l with
  | nil => simp [cut] at h
  | cons x l ih =>
    unfold cut at h ⊢
    by_cases hx : x = c
    · subst hx; simp
    · rw [if_neg hx] at h ⊢
      have := ih h
      refine ⟨by rw [List.cons_append, ← this.1], ?_⟩
      simp only [List.mem_cons, not_or]
      exact ⟨fun e => hx e.symm, this.2⟩
theorem mem_or (c : UInt8) (l : List UInt8) : c ∉ l ∨ ∃ p r, l = p ++ c :: r ∧ c ∉ p := by
  by_cases h : (cut c l).2.2 = true
  · exact .inr ⟨_, _, (cut_yes h).1, (cut_yes h).2⟩
  · left
    induction l with
    | nil => simp
    | cons x l ih =>
      unfold cut at h
      by_cases hx : x = c
      · simp [hx] at h
      · rw [if_neg hx] at h
        have := ih h
        simp only [List.mem_cons, not_or]
        exact ⟨fun e => hx e.symm, this⟩
theorem index_at {c : UInt8} {p : List UInt8} (r : List UInt8) (h : c ∉ p) : indexByte (p ++ c :: r) c = p.length := by
  induction p with
  | nil => simp [indexByte]
  | cons x p ih =>
    simp only [List.mem_cons, not_or] at h
    have hb : (x == c) = false := by simpa using fun e => h.1 e.symm
    have h1 : ((p.length : Int) == -1) = false := by first | (simp; done) | (simp; omega)
    simp only [List.cons_append, indexByte, hb, Bool.false_eq_true, if_false, ih h.2, h1, List.length_cons]
    omega
theorem index_no {c : UInt8} {l : List UInt8} (h : c ∉ l) : indexByte l c = -1 := by
  induction l with
  | nil => rfl
  | cons x l ih =>
    simp only [List.mem_cons, not_or] at h
    have hb : (x == c) = false := by simpa using fun e => h.1 e.symm
    simp [indexByte, hb, ih h.2]
theorem data_one (c : UInt8) : (⟨#[c]⟩ : ByteArray).data.toList = [c] := rfl
theorem split_eq (c : UInt8) (n : Nat) : ∀ (s : ByteArray), s.size ≤ n → (splitB ⟨#[c]⟩ 0 (countB s ⟨#[c]⟩) s).map (·.data.toList) = split c s.data.toList ∧ countB s ⟨#[c]⟩ + 1 = (split c s.data.toList).length := by
  induction n with
  | zero =>
    intro s hs
    have hn : c ∉ s.data.toList := by
      intro hm
      have h1 := List.length_pos_of_mem hm
      have h2 : s.data.toList.length = s.size := by simp
      omega
    have hx : indexB s ⟨#[c]⟩ = -1 := by show index _ [c] = _; rw [index_one]; exact index_no hn
    rw [countB_miss s _ hx, splitB_zero, split_no hn]
    exact ⟨rfl, rfl⟩
  | succ n ih =>
    intro s hs
    rcases mem_or c s.data.toList with hn | ⟨p, r, hl, hp⟩
    · have hx : indexB s ⟨#[c]⟩ = -1 := by show index _ [c] = _; rw [index_one]; exact index_no hn
      rw [countB_miss s _ hx, splitB_zero, split_no hn]
      exact ⟨rfl, rfl⟩
    · have hx : indexB s ⟨#[c]⟩ = (p.length : Nat) := by show index _ [c] = _; rw [index_one, hl]; exact index_at r hp
      have hsz : (⟨#[c]⟩ : ByteArray).size = 1 := rfl
      have hlen : s.size = p.length + 1 + r.length := by
        have := congrArg List.length hl
        simp at this
        omega
      have hr : (s.extract (p.length + 1) s.size).data.toList = r := by
        rw [extract_to_end, hl, List.drop_append]
        simp
      have hI := ih (s.extract (p.length + 1) s.size) (by simp; omega)
      rw [hr] at hI
      rw [countB_hit s ⟨#[c]⟩ p.length (by rw [hsz]; omega) hx, hsz, Nat.add_comm 1, splitB_hit _ _ _ _ _ hx, hsz, hl, split_at r hp]
      refine ⟨?_, by rw [List.length_cons, ← hI.2]⟩
      rw [List.map_cons, hI.1, extract_from_zero, hl]
      simp
end Tok
