/-
  The plain side of the package judge: waits.
-/
set_option linter.unusedVariables false
namespace JdCal
/-- The wait behind so many doublings, as long as it is below the longest. -/
def wt (b m : Int) : Nat → Int
  | 0 => b
  | k + 1 => if wt b m k < m then 2 * wt b m k else wt b m k
theorem wt_stop (b m : Int) (k j : Nat) (h : m ≤ wt b m k) : wt b m (k + j) = wt b m k := by
  induction j with
  | zero => rfl
  | succ j ih => rw [← Nat.add_assoc, wt, ih, if_neg (by omega)]
theorem wt_pos (b m : Int) (hb : 1 ≤ b) (k : Nat) : 1 ≤ wt b m k := by
  induction k with
  | zero => exact hb
  | succ k ih => rw [wt]; split <;> omega
theorem wt_lt (b m : Int) (hb : 1 ≤ b) (hm : b ≤ m) (k : Nat) : wt b m k < 2 * m := by
  induction k with
  | zero => simp only [wt]; omega
  | succ k ih => rw [wt]; split <;> omega
theorem wt_mono (b m : Int) (hb : 1 ≤ b) (k : Nat) : wt b m k ≤ wt b m (k + 1) := by
  have := wt_pos b m hb k
  simp only [wt]
  split <;> omega
theorem wt_base (b m : Int) (hb : 1 ≤ b) (k : Nat) : b ≤ wt b m k := by
  induction k with
  | zero => exact Int.le_refl _
  | succ k ih => have := wt_mono b m hb k; omega
theorem wt_pow (b m : Int) (hb : 1 ≤ b) (k : Nat) : m ≤ wt b m k ∨ ((2 ^ k : Nat) : Int) ≤ wt b m k := by
  induction k with
  | zero => right; simpa [wt] using hb
  | succ k ih =>
    rw [wt]
    rcases ih with h | h
    · rw [if_neg (by omega)]; exact .inl h
    · split
      · right; rw [Nat.pow_succ]; omega
      · left; omega
/-- Behind so many tries. -/
def wait (b m tries : Int) : Int := min (wt b m (tries - 1).toNat) m
theorem wait_long (b m : Int) (hb : 1 ≤ b) (hm : m ≤ 1048576) : wait b m 40 = m := by
  unfold wait
  have := wt_pow b m hb 39
  have e : ((40 : Int) - 1).toNat = 39 := rfl
  rw [e]
  have p : ((2 ^ 39 : Nat) : Int) = 549755813888 := by decide
  omega
theorem wait_one (b m : Int) (hm : b ≤ m) : wait b m 1 = b := by
  unfold wait
  have e : ((1 : Int) - 1).toNat = 0 := rfl
  rw [e, wt]
  omega
theorem wait_next (b m t : Int) (hb : 1 ≤ b) (hm : b ≤ m) (ht : 1 ≤ t) :
    b ≤ wait b m t ∧ wait b m t ≤ m ∧ wait b m t ≤ wait b m (t + 1) ∧ (wait b m (t + 1) = m ∨ wait b m (t + 1) = 2 * wait b m t) := by
  unfold wait
  have e : (t + 1 - 1).toNat = (t - 1).toNat + 1 := by omega
  rw [e]
  have h1 := wt_base b m hb (t - 1).toNat
  have h2 := wt_mono b m hb (t - 1).toNat
  have h3 := wt_pos b m hb (t - 1).toNat
  have h4 : wt b m ((t - 1).toNat + 1) = if wt b m (t - 1).toNat < m then 2 * wt b m (t - 1).toNat else wt b m (t - 1).toNat := rfl
  split at h4 <;> omega
/-- May a plan be? -/
def right (b m l w : Int) : Bool := decide (1 ≤ b ∧ b ≤ m ∧ m ≤ 1048576 ∧ 1 ≤ l ∧ l ≤ 1073741824 ∧ 1 ≤ w ∧ w ≤ 1073741824)
end JdCal
