/-
  A text's words laid backwards: what the loop builds.
-/
import Derived.Test.YtfffdbjfhdkheaaGreatDoorQPmLaw6
import Derived.Test.YtfffdbjfhdkheaaGreatDoorQPmBk0
set_option linter.unusedVariables false
set_option linter.unusedSimpArgs false
namespace Go.Proofs.YtfffdbjfhdkheaaGreatDoor
open Go.RowKit Go.Shelf
set_option maxRecDepth 100000
namespace Pm
/-- The last j words, backwards, each with a blank behind it but the first of the text. -/
def turnT (rl : List ByteArray) : Nat → ByteArray
  | 0 => ⟨#[]⟩
  | j + 1 => if j + 1 < rl.length then (turnT rl j ++ rl.reverse.getD j ⟨#[]⟩) ++ ⟨#[32]⟩ else turnT rl j ++ rl.reverse.getD j ⟨#[]⟩
theorem turn_less {rl : List ByteArray} {j k : Nat} (h : rl.length = k + 1 + j) (hk : 0 < k) (hlt : k < rl.length) : turnT rl (j + 1) = (turnT rl j ++ rl[k]) ++ ⟨#[32]⟩ := by
  rw [turnT, if_pos (by omega)]
  have : rl.reverse.getD j ⟨#[]⟩ = rl[k] := by
    rw [List.getD_eq_getElem?_getD, List.getElem?_reverse (by omega), show rl.length - 1 - j = k by omega, List.getElem?_eq_getElem hlt]
    rfl
  rw [this]
theorem turn_last {rl : List ByteArray} {j : Nat} (h : rl.length = 0 + 1 + j) (hlt : 0 < rl.length) : turnT rl (j + 1) = turnT rl j ++ rl[0] := by
  rw [turnT, if_neg (by omega)]
  have : rl.reverse.getD j ⟨#[]⟩ = rl[0] := by
    rw [List.getD_eq_getElem?_getD, List.getElem?_reverse (by omega), show rl.length - 1 - j = 0 by omega, List.getElem?_eq_getElem hlt]
    rfl
  rw [this]
theorem join_one (y : ByteArray) (sep : ByteArray) : joinB [y] sep = y := by
  unfold joinB Lib.join
  apply ByteArray.ext
  simp [List.intercalate]
theorem turn_all (rl : List ByteArray) (j : Nat) (h : j ≤ rl.length) (h0 : 0 < j) : turnT rl j = if j < rl.length then joinB (rl.reverse.take j) ⟨#[32]⟩ ++ ⟨#[32]⟩ else joinB (rl.reverse.take j) ⟨#[32]⟩ := by
  induction j with
  | zero => omega
  | succ j ih =>
    have hl : j < rl.reverse.length := by simp; omega
    have hg : rl.reverse.getD j ⟨#[]⟩ = rl.reverse[j] := by rw [List.getD_eq_getElem?_getD, List.getElem?_eq_getElem hl]; rfl
    have hx : turnT rl j ++ rl.reverse.getD j ⟨#[]⟩ = joinB (rl.reverse.take (j + 1)) ⟨#[32]⟩ := by
      rw [List.take_succ_eq_append_getElem hl, hg]
      rcases Nat.eq_zero_or_pos j with rfl | hp
      · rw [List.take_zero, List.nil_append, join_one]
        show (⟨#[]⟩ : ByteArray) ++ _ = _
        apply ByteArray.ext
        simp
      · have hne : rl.reverse.take j ≠ [] := by
          intro e
          have h5 := congrArg List.length e
          rw [List.length_take, List.length_nil, List.length_reverse] at h5
          omega
        rw [ih (by omega) hp, if_pos (by omega), joinB_snoc _ hne]
    rw [turnT, hx]
theorem turn_done (rl : List ByteArray) (h : rl ≠ []) : turnT rl rl.length = joinB rl.reverse ⟨#[32]⟩ := by
  have : 0 < rl.length := List.length_pos_iff.2 h
  rw [turn_all rl _ (Nat.le_refl _) this, if_neg (by omega), List.take_of_length_le (by simp)]
theorem turn_size (rl : List ByteArray) (M : Nat) (hM : ∀ w ∈ rl, w.size ≤ M) (j : Nat) (h : j ≤ rl.length) : (turnT rl j).size ≤ j * (M + 1) := by
  induction j with
  | zero => simp [turnT]; rfl
  | succ j ih =>
    have hl : j < rl.reverse.length := by simp; omega
    have hg : rl.reverse.getD j ⟨#[]⟩ = rl.reverse[j] := by rw [List.getD_eq_getElem?_getD, List.getElem?_eq_getElem hl]; rfl
    have hs := hM rl.reverse[j] (List.mem_reverse.1 (List.getElem_mem hl))
    have hi := ih (by omega)
    rw [turnT, hg]
    have e1 : (⟨#[32]⟩ : ByteArray).size = 1 := rfl
    have e2 : (j + 1) * (M + 1) = j * (M + 1) + (M + 1) := by rw [Nat.add_mul]; omega
    split <;> simp only [ByteArray.size_append, e1] <;> omega
theorem part_size (s : ByteArray) : ∀ w ∈ parts 32 s, w.size ≤ s.size := by
  intro w hw
  unfold parts at hw
  obtain ⟨l, hl, rfl⟩ := List.mem_map.1 hw
  have hj := (split_not 32 _ _ (Nat.le_refl s.data.toList.length)).2
  have : ∀ (ls : List (List UInt8)) (l : List UInt8), l ∈ ls → l.length ≤ (List.intercalate [32] ls).length := by
    intro ls
    induction ls with
    | nil => intro l h; simp at h
    | cons y r ih =>
      intro l h
      cases r with
      | nil => simp at h; subst h; simp [List.intercalate]
      | cons z r =>
        rw [inter_cons]
        rcases List.mem_cons.1 h with rfl | h
        · simp
        · have := ih l h
          simp only [List.length_append]
          omega
  have h2 := this _ l hl
  rw [hj] at h2
  have e : s.data.toList.length = s.size := by simp
  show l.toArray.size ≤ _
  simp only [List.size_toArray]
  omega
theorem parts_len (s : ByteArray) : (parts 32 s).length ≤ s.size + 1 := by
  have : ∀ l : List UInt8, (Tok.split 32 l).length ≤ l.length + 1 := by
    intro l
    induction l with
    | nil => simp [Tok.split]
    | cons x l ih =>
      unfold Tok.split
      split
      · simp only [List.length_cons]; omega
      · split
        · simp
        · rename_i h; rw [h] at ih; simp only [List.length_cons] at ih ⊢; omega
  unfold parts
  rw [List.length_map]
  have := this s.data.toList
  have e : s.data.toList.length = s.size := by simp
  omega
end Pm
theorem eq_ml (w : World) (a : Act) (o : Oper) (x y : Operand) (t' : TypeId) (ho : o.op = .binOp .eql 25 x y t') (hx : a.eval x = .agg Pm.Ml.zero.cells) (hy : a.eval y = .agg Pm.Ml.zero.cells) : (execOp a.eval o).run Tryz.prog w = .ok (.value (.bool true)) w := by
  simp only [execOp, ho, hx, hy]
  unfold Pm.Ml.cells
  go_simp
theorem eq_rc (w : World) (a : Act) (o : Oper) (x y : Operand) (t' : TypeId) (ho : o.op = .binOp .eql 27 x y t') (hx : a.eval x = .agg Pm.Rc.zero.cells) (hy : a.eval y = .agg Pm.Rc.zero.cells) : (execOp a.eval o).run Tryz.prog w = .ok (.value (.bool true)) w := by
  simp only [execOp, ho, hx, hy]
  unfold Pm.Rc.cells
  go_simp
end Go.Proofs.YtfffdbjfhdkheaaGreatDoor
