/-
  The plain side of the package date: month lengths, digits.
-/
import Derived.Lib.ItoaNum
import Derived.Lib.Repeat
set_option linter.unusedVariables false
set_option linter.unusedSimpArgs false
namespace DtCal
/-- Is a year leap? (Go's remainder.) -/
def leap (y : Int) : Bool := (Int.tmod y 4 == 0) && ((Int.tmod y 100 != 0) || (Int.tmod y 400 == 0))
/-- A month's length, 0 out of range. -/
def len (y m : Int) : Int :=
  if m < 1 ∨ 12 < m then 0 else if m = 2 then (if leap y = true then 29 else 28) else if m = 4 ∨ m = 6 ∨ m = 9 ∨ m = 11 then 30 else 31
/-- Days of all years ahead of one, since the year 0. -/
def dby (y : Int) : Int := 365 * (y - 1) + (y - 1) / 4 - (y - 1) / 100 + (y - 1) / 400
def right (y m d : Int) : Bool := decide (1970 ≤ y ∧ y ≤ 9999 ∧ 1 ≤ m ∧ 1 ≤ d ∧ d ≤ len y m)
/-- Days of the months ahead of one. -/
def cum (y : Int) : Nat → Int
  | 0 => 0
  | m + 1 => cum y m + len y (m + 1)
end DtCal
namespace DtCal
/-- The number of digits read one by one. -/
def dec (l : List UInt8) : Int := l.foldl (fun n c => 10 * n + (c.toNat : Int) - 48) 0
def digit (c : UInt8) : Bool := 48 ≤ c.toNat && c.toNat ≤ 57
theorem dec_nil : dec [] = 0 := rfl
theorem dec_snoc (l : List UInt8) (c : UInt8) : dec (l ++ [c]) = 10 * dec l + (c.toNat : Int) - 48 := by unfold dec; rw [List.foldl_append]; rfl
theorem dec_bound (l : List UInt8) (h : l.length ≤ 4) : -60000 ≤ dec l ∧ dec l ≤ 240000 := by
  have b := fun c : UInt8 => c.toNat_lt
  match l, h with
  | [], _ => simp [dec]
  | [x], _ => have := b x; simp [dec]; omega
  | [x, y], _ => have := b x; have := b y; simp [dec]; omega
  | [x, y, z], _ => have := b x; have := b y; have := b z; simp [dec]; omega
  | [x, y, z, u], _ => have := b x; have := b y; have := b z; have := b u; simp [dec]; omega
/-- What the reader of a number leaves: the number, the text behind, is it wrong? -/
def num (s : List UInt8) (bad : Bool) (size : Nat) (behind : List UInt8) : Int × List UInt8 × Bool :=
  if s.length < size then (0, s, true)
  else (dec (s.take size), (if behind.isPrefixOf (s.drop size) then (s.drop size).drop behind.length else s.drop size),
    bad || (s.take size).any (fun c => !digit c) || !behind.isPrefixOf (s.drop size))
theorem take_snoc (l : List UInt8) (k : Nat) (h : k < l.length) : l.take (k + 1) = l.take k ++ [l[k]] := List.take_succ_eq_append_getElem h
end DtCal
namespace DtCal
/-- Behind the last number: a zone's sign and numbers; the text and the fault behind. -/
def zone (s : List UInt8) (bad : Bool) : Int × Int × Int × Bool :=
  let sign : Int := if [43].isPrefixOf s then -1 else if [45].isPrefixOf s then 1 else 0
  if sign = 0 then (0, 0, 0, bad || !(s == [90]))
  else
    let a := num (s.drop 1) bad 2 [58]
    let b := num a.2.1 a.2.2 2 []
    (sign, a.1, b.1, b.2.2 || !(b.2.1 == []))
/-- The shape of a text: its eight numbers, a sign, is it wrong? -/
def shape (s : List UInt8) : (Int × Int × Int) × (Int × Int × Int) × (Int × Int × Int × Bool) :=
  let a := num s false 4 [45]
  let b := num a.2.1 a.2.2 2 [45]
  let c := num b.2.1 b.2.2 2 [84]
  let h := num c.2.1 c.2.2 2 [58]
  let m := num h.2.1 h.2.2 2 [58]
  let x := num m.2.1 m.2.2 2 []
  ((a.1, b.1, c.1), (h.1, m.1, x.1), zone x.2.1 x.2.2)
def time (n : Int) (h m x : Int) (z : Int × Int × Int × Bool) : Int := n * 86400 + h * 3600 + m * 60 + x + z.1 * (z.2.1 * 3600 + z.2.2.1 * 60)
end DtCal
namespace DtCal
theorem len_bd (y m : Int) : 0 ≤ len y m ∧ len y m ≤ 31 := by unfold len; (repeat' split) <;> omega
theorem len_lo (y m : Int) (h1 : 1 ≤ m) (h2 : m ≤ 12) : 28 ≤ len y m := by unfold len; (repeat' split) <;> omega
theorem cum_bd (y : Int) (m : Nat) : 0 ≤ cum y m ∧ cum y m ≤ 31 * m := by
  induction m with
  | zero => simp [cum]
  | succ m ih => have := len_bd y (m + 1); simp only [cum]; omega
theorem dby_bd (y : Int) (h0 : 1 ≤ y) (h1 : y ≤ 10000) : 0 ≤ dby y ∧ dby y ≤ 3652425 := by unfold dby; omega
theorem dby_mono (a b : Int) (h0 : 1 ≤ a) (h : a ≤ b) : dby a ≤ dby b := by unfold dby; omega
theorem right_iff {y m d : Int} : right y m d = true ↔ 1970 ≤ y ∧ y ≤ 9999 ∧ 1 ≤ m ∧ 1 ≤ d ∧ d ≤ len y m := by simp [right]
theorem right_month {y m d : Int} (h : right y m d = true) : m ≤ 12 := by
  obtain ⟨_, _, h3, h4, h5⟩ := right_iff.1 h
  rcases Int.lt_or_le 12 m with h | h
  · rw [len, if_pos (.inr h)] at h5; omega
  · exact h
/-- The number of a date's day. -/
def days (y m d : Int) : Int × Int := if right y m d = true then (dby y - 719162 + cum y (m.toNat - 1) + d - 1, 0) else (0, 1)
end DtCal
namespace DtCal
def lp (y : Int) : Int := if leap y = true then 1 else 0
theorem leap_iff {y : Int} (h : 0 ≤ y) : leap y = true ↔ y % 4 = 0 ∧ (y % 100 ≠ 0 ∨ y % 400 = 0) := by
  unfold leap
  rw [Int.tmod_eq_emod_of_nonneg h, Int.tmod_eq_emod_of_nonneg h, Int.tmod_eq_emod_of_nonneg h]
  simp
theorem lp_01 (y : Int) : 0 ≤ lp y ∧ lp y ≤ 1 := by unfold lp; split <;> omega
theorem dby_succ (y : Int) (h : 1 ≤ y) : dby (y + 1) = dby y + 365 + lp y := by
  unfold dby lp
  by_cases hl : leap y = true
  · rw [if_pos hl]
    have := (leap_iff (by omega)).1 hl
    omega
  · rw [if_neg hl]
    have : ¬ (y % 4 = 0 ∧ (y % 100 ≠ 0 ∨ y % 400 = 0)) := fun h' => hl ((leap_iff (by omega)).2 h')
    omega
theorem len_2 (y : Int) : len y 2 = 28 + lp y := by
  unfold len lp
  rw [if_neg (by omega), if_pos rfl]
  split <;> rfl
theorem cum_all (y : Int) : cum y 0 = 0 ∧ cum y 1 = 31 ∧ cum y 2 = 59 + lp y ∧ cum y 3 = 90 + lp y ∧ cum y 4 = 120 + lp y ∧ cum y 5 = 151 + lp y ∧ cum y 6 = 181 + lp y ∧ cum y 7 = 212 + lp y ∧ cum y 8 = 243 + lp y ∧ cum y 9 = 273 + lp y ∧ cum y 10 = 304 + lp y ∧ cum y 11 = 334 + lp y ∧ cum y 12 = 365 + lp y := by
  have h2 := len_2 y
  have h1 : len y 1 = 31 := by simp [len]
  have h3 : len y 3 = 31 := by simp [len]
  have h4 : len y 4 = 30 := by simp [len]
  have h5 : len y 5 = 31 := by simp [len]
  have h6 : len y 6 = 30 := by simp [len]
  have h7 : len y 7 = 31 := by simp [len]
  have h8 : len y 8 = 31 := by simp [len]
  have h9 : len y 9 = 30 := by simp [len]
  have h10 : len y 10 = 31 := by simp [len]
  have h11 : len y 11 = 30 := by simp [len]
  have h12 : len y 12 = 31 := by simp [len]
  refine ⟨rfl, ?_, ?_, ?_, ?_, ?_, ?_, ?_, ?_, ?_, ?_, ?_, ?_⟩ <;> simp [cum, h1, h2, h3, h4, h5, h6, h7, h8, h9, h10, h11, h12] <;> omega
theorem cum_mono (y : Int) (a b : Nat) (h : a ≤ b) : cum y a ≤ cum y b := by
  induction b with
  | zero => obtain rfl : a = 0 := by omega
            omega
  | succ b ih =>
    rcases Nat.lt_or_ge a (b + 1) with h' | h'
    · have := ih (by omega); have := len_bd y (b + 1); simp only [cum]; omega
    · obtain rfl : a = b + 1 := by omega
      omega
theorem cum_le_year (y : Int) (m : Nat) (h : m ≤ 12) : cum y m ≤ 365 + lp y := by have := cum_mono y m 12 h; have := (cum_all y).2.2.2.2.2.2.2.2.2.2.2.2; omega
/-- The day's number within its year. -/
theorem in_year {y m d : Int} (h : right y m d = true) : 0 ≤ cum y (m.toNat - 1) + d - 1 ∧ cum y (m.toNat - 1) + d - 1 < 365 + lp y ∧ cum y (m.toNat - 1) + d ≤ cum y m.toNat := by
  obtain ⟨h1, h2, h3, h4, h5⟩ := right_iff.1 h
  have hm := right_month h
  have hb := (cum_bd y (m.toNat - 1)).1
  obtain ⟨k, rfl⟩ : ∃ k : Nat, m = k + 1 := ⟨m.toNat - 1, by omega⟩
  have e : ((k : Int) + 1).toNat = k + 1 := by omega
  rw [e] at hb ⊢
  have hs : cum y (k + 1) = cum y k + len y (k + 1) := rfl
  have hy := cum_le_year y (k + 1) (by omega)
  simp only [Nat.add_sub_cancel] at hb ⊢
  omega
theorem days_val {y m d : Int} (h : right y m d = true) : days y m d = (dby y - 719162 + cum y (m.toNat - 1) + d - 1, 0) := by rw [days, if_pos h]
theorem days_inj {y m d y' m' d' : Int} (h : right y m d = true) (h' : right y' m' d' = true) (e : (days y m d).1 = (days y' m' d').1) : y = y' ∧ m = m' ∧ d = d' := by
  rw [days_val h, days_val h'] at e
  simp only at e
  have a := in_year h
  have a' := in_year h'
  have r := right_iff.1 h
  have r' := right_iff.1 h'
  have hy : y = y' := by
    rcases Int.lt_trichotomy y y' with hlt | heq | hgt
    · have := dby_mono (y + 1) y' (by omega) (by omega)
      have := dby_succ y (by omega)
      omega
    · exact heq
    · have := dby_mono (y' + 1) y (by omega) (by omega)
      have := dby_succ y' (by omega)
      omega
  subst hy
  have hm : m = m' := by
    rcases Int.lt_trichotomy m m' with hlt | heq | hgt
    · have := cum_mono y m.toNat (m'.toNat - 1) (by omega)
      omega
    · exact heq
    · have := cum_mono y m'.toNat (m.toNat - 1) (by omega)
      omega
  subst hm
  exact ⟨rfl, rfl, by omega⟩
theorem days_range {y m d : Int} (h : right y m d = true) : 0 ≤ (days y m d).1 ∧ (days y m d).1 ≤ 2932896 := by
  rw [days_val h]
  have a := in_year h
  have r := right_iff.1 h
  have h1 := dby_mono 1970 y (by omega) (by omega)
  have h2 := dby_mono (y + 1) 10000 (by omega) (by omega)
  have h3 := dby_succ y (by omega)
  have e1 : dby 1970 = 719162 := by decide
  have e2 : dby 10000 = 3652059 := by decide
  simp only
  omega
theorem guess (n : Int) (h0 : 0 ≤ n) (h1 : n ≤ 2932896) : dby (1970 + n / 366) - 719162 ≤ n := by unfold dby; omega
/-- The date of a day's number. -/
def IsDate (n : Int) (p : Int × Int × Int) : Prop := right p.1 p.2.1 p.2.2 = true ∧ (days p.1 p.2.1 p.2.2).1 = n
open Classical in
noncomputable def ofD (n : Int) : Int × Int × Int := if h : ∃ p, IsDate n p then Classical.choose h else (0, 0, 0)
theorem ofD_eq {n : Int} {p : Int × Int × Int} (h : IsDate n p) : ofD n = p := by
  have hx : ∃ p, IsDate n p := ⟨p, h⟩
  unfold ofD
  rw [dif_pos hx]
  have hc := Classical.choose_spec hx
  obtain ⟨e1, e2, e3⟩ := days_inj hc.1 h.1 (hc.2.trans h.2.symm)
  exact Prod.ext e1 (Prod.ext e2 e3)
end DtCal
namespace DtCal
open Go.Lib
/-- A number in so many digits. -/
def pad (n : Int) (size : Nat) : List UInt8 := List.replicate (size - (itoa n).length) 48 ++ itoa n
end DtCal
namespace DtCal
open Go.Lib
theorem decDigits_lt (u : Nat) (h : u < 10) : decDigits u = [UInt8.ofNat (48 + u)] := by rw [decDigits, dif_pos h]
theorem decDigits_ge (u : Nat) (h : 10 ≤ u) : decDigits u = decDigits (u / 10) ++ [UInt8.ofNat (48 + u % 10)] := by rw [decDigits, dif_neg (by omega)]
theorem decDigits_len (u k : Nat) (h : u < 10 ^ (k + 1)) : (decDigits u).length ≤ k + 1 := by
  induction k generalizing u with
  | zero => rw [decDigits_lt u (by omega)]; simp
  | succ k ih =>
    by_cases hu : u < 10
    · rw [decDigits_lt u hu]; simp
    · rw [decDigits_ge u (by omega)]
      have := ih (u / 10) (by rw [Nat.pow_succ] at h; omega)
      simp; omega
theorem itoa_nat (n : Nat) : itoa n = decDigits n := by unfold itoa; rw [if_neg (by omega)]; simp
theorem itoa_len (n : Int) (h0 : 0 ≤ n) (h1 : n ≤ 99999) : (itoa n).length ≤ 5 := by
  obtain ⟨m, rfl⟩ := Int.eq_ofNat_of_zero_le h0
  rw [itoa_nat]
  exact decDigits_len m 4 (by omega)
end DtCal
namespace DtCal
open Go.Lib
theorem itoa_len_le (n : Int) (k : Nat) (h0 : 0 ≤ n) (h1 : n < ((10 ^ (k + 1) : Nat) : Int)) : (itoa n).length ≤ k + 1 := by
  obtain ⟨m, rfl⟩ := Int.eq_ofNat_of_zero_le h0
  rw [itoa_nat]
  exact decDigits_len m k (by omega)
theorem pad_len (n : Int) (k : Nat) (h0 : 0 ≤ n) (h1 : n < ((10 ^ (k + 1) : Nat) : Int)) : (pad n (k + 1)).length = k + 1 := by
  have := itoa_len_le n k h0 h1
  simp [pad]; omega
end DtCal
namespace DtCal
open Go.Lib
/-- The last digit. -/
def dg (n : Int) : UInt8 := UInt8.ofNat (48 + (n % 10).toNat)
theorem pad_two (n : Int) (h0 : 0 ≤ n) (h1 : n ≤ 99) : pad n 2 = [dg (n / 10), dg n] := by
  obtain ⟨m, rfl⟩ := Int.eq_ofNat_of_zero_le h0
  unfold pad dg
  rw [itoa_nat]
  by_cases h : m < 10
  · rw [decDigits_lt m h]
    have e1 : ((m : Int) / 10 % 10).toNat = 0 := by omega
    have e2 : ((m : Int) % 10).toNat = m := by omega
    rw [e1, e2]
    rfl
  · rw [decDigits_ge m (by omega), decDigits_lt (m / 10) (by omega)]
    have e1 : ((m : Int) / 10 % 10).toNat = m / 10 := by omega
    have e2 : ((m : Int) % 10).toNat = m % 10 := by omega
    rw [e1, e2]
    rfl
theorem pad_four (n : Int) (h0 : 1000 ≤ n) (h1 : n ≤ 9999) : pad n 4 = [dg (n / 1000), dg (n / 100), dg (n / 10), dg n] := by
  obtain ⟨m, rfl⟩ := Int.eq_ofNat_of_zero_le (show 0 ≤ n by omega)
  unfold pad dg
  rw [itoa_nat, decDigits_ge m (by omega), decDigits_ge (m / 10) (by omega), decDigits_ge (m / 10 / 10) (by omega), decDigits_lt (m / 10 / 10 / 10) (by omega)]
  have e1 : ((m : Int) / 10 % 10).toNat = m / 10 % 10 := by omega
  have e2 : ((m : Int) % 10).toNat = m % 10 := by omega
  have e3 : ((m : Int) / 100 % 10).toNat = m / 10 / 10 % 10 := by omega
  have e4 : ((m : Int) / 1000 % 10).toNat = m / 10 / 10 / 10 := by omega
  rw [e1, e2, e3, e4]
  rfl
def textOf (p : Int × Int × Int) (s : Int) : List UInt8 :=
  [dg (p.1 / 1000), dg (p.1 / 100), dg (p.1 / 10), dg p.1, 45, dg (p.2.1 / 10), dg p.2.1, 45, dg (p.2.2 / 10), dg p.2.2, 84,
    dg (s / 3600 / 10), dg (s / 3600), 58, dg (s / 60 % 60 / 10), dg (s / 60 % 60), 58, dg (s % 60 / 10), dg (s % 60), 90]
/-- A time's text. -/
noncomputable def text (t : Int) : List UInt8 := textOf (ofD (t / 86400)) (t % 86400)
end DtCal
namespace DtCal
theorem num_bd {s : List UInt8} {b : Bool} {size : Nat} {beh : List UInt8} {n : Int} {s' : List UInt8} {b' : Bool} (h : num s b size beh = (n, s', b')) (hs : size ≤ 4) : -60000 ≤ n ∧ n ≤ 240000 := by
  unfold num at h
  split at h
  · injection h with h _; omega
  · injection h with h _
    rw [← h]
    exact dec_bound _ (by simp; omega)
theorem days_bd (y m d : Int) : 0 ≤ (days y m d).1 ∧ (days y m d).1 ≤ 2932896 := by
  by_cases h : right y m d = true
  · exact days_range h
  · rw [days, if_neg h]; simp
theorem days_err (y m d : Int) : (days y m d).2 = 0 ∨ (days y m d).2 = 1 := by unfold days; split <;> simp
end DtCal
namespace DtCal
/-- What the numbers of a text's shape tell. -/
def parse2 (y mo d h m x : Int) (z : Int × Int × Int × Bool) : Int × Int :=
  if z.2.2.2 = true then (0, 2)
  else if (days y mo d).2 ≠ 0 ∨ h > 23 ∨ m > 59 ∨ x > 59 ∨ z.2.1 > 23 ∨ z.2.2.1 > 59 ∨ time (days y mo d).1 h m x z < 0 ∨ time (days y mo d).1 h m x z ≥ 253402300800 then (0, 1)
  else (time (days y mo d).1 h m x z, 0)
def parse (s : List UInt8) : Int × Int :=
  let p := shape s
  parse2 p.1.1 p.1.2.1 p.1.2.2 p.2.1.1 p.2.1.2.1 p.2.1.2.2 p.2.2
end DtCal
