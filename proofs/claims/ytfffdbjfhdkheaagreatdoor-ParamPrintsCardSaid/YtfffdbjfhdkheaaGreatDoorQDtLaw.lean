/-
  Plain laws of dates: what is printed is parsed, zones, and the order of texts. No program stands here.
-/
import Derived.Test.YtfffdbjfhdkheaaGreatDoorQ1
import GoSem.Op.String
set_option linter.unusedVariables false
set_option linter.unusedSimpArgs false
namespace DtCal
open Go.Lib
theorem dg_val (n : Int) : ((dg n).toNat : Int) = 48 + n % 10 := by
  unfold dg
  rw [UInt8.toNat_ofNat']
  omega
theorem digit_dg (n : Int) : digit (dg n) = true := by
  have := dg_val n
  unfold digit
  simp only [Bool.and_eq_true, decide_eq_true_eq]
  omega
theorem num4c (a b c d x : UInt8) (r : List UInt8) (bad : Bool) : num (a :: b :: c :: d :: x :: r) bad 4 [x] = (dec [a, b, c, d], r, bad || [a, b, c, d].any fun c => !digit c) := by
  unfold num
  rw [if_neg (by simp)]
  simp [List.isPrefixOf]
theorem num2c (a b x : UInt8) (r : List UInt8) (bad : Bool) : num (a :: b :: x :: r) bad 2 [x] = (dec [a, b], r, bad || [a, b].any fun c => !digit c) := by
  unfold num
  rw [if_neg (by simp)]
  simp [List.isPrefixOf]
theorem num2e (a b : UInt8) (r : List UInt8) (bad : Bool) : num (a :: b :: r) bad 2 [] = (dec [a, b], r, bad || [a, b].any fun c => !digit c) := by
  unfold num
  rw [if_neg (by simp)]
  simp [List.isPrefixOf]
theorem dec2 (n : Int) (h0 : 0 ≤ n) (h1 : n ≤ 99) : dec [dg (n / 10), dg n] = n := by
  have a := dg_val (n / 10)
  have b := dg_val n
  simp only [dec, List.foldl_cons, List.foldl_nil]
  omega
theorem dec4 (n : Int) (h0 : 0 ≤ n) (h1 : n ≤ 9999) : dec [dg (n / 1000), dg (n / 100), dg (n / 10), dg n] = n := by
  have a := dg_val (n / 1000)
  have b := dg_val (n / 100)
  have c := dg_val (n / 10)
  have d := dg_val n
  simp only [dec, List.foldl_cons, List.foldl_nil]
  omega
/-- The first nineteen signs of a time's text, and what stands behind. -/
def headOf (p : Int × Int × Int) (s : Int) (z : List UInt8) : List UInt8 :=
  dg (p.1 / 1000) :: dg (p.1 / 100) :: dg (p.1 / 10) :: dg p.1 :: 45 :: dg (p.2.1 / 10) :: dg p.2.1 :: 45 :: dg (p.2.2 / 10) :: dg p.2.2 :: 84 ::
    dg (s / 3600 / 10) :: dg (s / 3600) :: 58 :: dg (s / 60 % 60 / 10) :: dg (s / 60 % 60) :: 58 :: dg (s % 60 / 10) :: dg (s % 60) :: z
theorem text_head (t : Int) : text t = headOf (ofD (t / 86400)) (t % 86400) [90] := rfl
theorem shape_head (p : Int × Int × Int) (s : Int) (z : List UInt8) (h1 : 0 ≤ p.1 ∧ p.1 ≤ 9999) (h2 : 0 ≤ p.2.1 ∧ p.2.1 ≤ 99) (h3 : 0 ≤ p.2.2 ∧ p.2.2 ≤ 99) (h4 : 0 ≤ s ∧ s < 86400) :
    shape (headOf p s z) = ((p.1, p.2.1, p.2.2), (s / 3600, s / 60 % 60, s % 60), zone z false) := by
  unfold shape headOf
  simp only [num4c, num2c, num2e, List.any_cons, List.any_nil, digit_dg, Bool.not_true, Bool.or_false, Bool.false_or]
  rw [dec4 _ h1.1 h1.2, dec2 _ h2.1 h2.2, dec2 _ h3.1 h3.2, dec2 _ (by omega) (by omega), dec2 _ (by omega) (by omega), dec2 _ (by omega) (by omega)]
theorem zone_z : zone [90] false = (0, 0, 0, false) := by decide
theorem zone_sign (c : UInt8) (sg h m : Int) (hc : (c = 43 ∧ sg = -1) ∨ (c = 45 ∧ sg = 1)) (h0 : 0 ≤ h ∧ h ≤ 99) (m0 : 0 ≤ m ∧ m ≤ 99) :
    zone (c :: dg (h / 10) :: dg h :: 58 :: dg (m / 10) :: [dg m]) false = (sg, h, m, false) := by
  unfold zone
  rcases hc with ⟨rfl, rfl⟩ | ⟨rfl, rfl⟩ <;> simp [List.isPrefixOf, num2c, num2e, digit_dg, dec2 _ h0.1 h0.2, dec2 _ m0.1 m0.2]
theorem exists_date (n : Int) (h0 : 0 ≤ n) (h1 : n ≤ 2932896) : ∃ p, IsDate n p := by
  -- the year: by going up
  have up : ∀ k : Nat, ∀ y : Int, 1970 ≤ y → y ≤ 9999 → (9999 - y).toNat ≤ k → dby y - 719162 ≤ n → ∃ y', 1970 ≤ y' ∧ y' ≤ 9999 ∧ dby y' - 719162 ≤ n ∧ n < dby (y' + 1) - 719162 := by
    intro k
    induction k with
    | zero =>
      intro y a b c d
      obtain rfl : y = 9999 := by omega
      exact ⟨9999, by omega, by omega, d, by have : dby (9999 + 1) = 3652059 := by decide
                                             omega⟩
    | succ k ih =>
      intro y a b c d
      by_cases h : n < dby (y + 1) - 719162
      · exact ⟨y, a, b, d, h⟩
      · have hy : y < 9999 := by
          rcases Int.lt_or_le y 9999 with h' | h'
          · exact h'
          · obtain rfl : y = 9999 := by omega
            have : dby (9999 + 1) = 3652059 := by decide
            omega
        exact ih (y + 1) (by omega) (by omega) (by omega) (by omega)
  obtain ⟨y, a, b, c, d⟩ := up 9000 1970 (by omega) (by omega) (by omega) (by have : dby 1970 = 719162 := by decide
                                                                              omega)
  have ys := dby_succ y (by omega)
  have hm : ∀ k : Nat, k ≤ 12 → cum y k ≤ n - (dby y - 719162) ∨ ∃ m : Nat, m < k ∧ cum y m ≤ n - (dby y - 719162) ∧ n - (dby y - 719162) < cum y (m + 1) := by
    intro k
    induction k with
    | zero => intro _; left; simp [cum]; omega
    | succ k ih =>
      intro hk
      rcases ih (by omega) with h | ⟨m, hm, h⟩
      · by_cases h' : cum y (k + 1) ≤ n - (dby y - 719162)
        · exact .inl h'
        · exact .inr ⟨k, by omega, h, by omega⟩
      · exact .inr ⟨m, by omega, h⟩
  rcases hm 12 (by omega) with h | ⟨m, hm, h1, h2⟩
  · have := (cum_all y).2.2.2.2.2.2.2.2.2.2.2.2
    omega
  · have hs : cum y (m + 1) = cum y m + len y (m + 1) := rfl
    have hr : right y (m + 1) (n - (dby y - 719162) - cum y m + 1) = true := right_iff.2 ⟨a, b, by omega, by omega, by omega⟩
    refine ⟨(y, m + 1, n - (dby y - 719162) - cum y m + 1), hr, ?_⟩
    rw [days_val hr]
    have e : ((m : Int) + 1).toNat - 1 = m := by omega
    simp only [e]
    omega
theorem ofD_is (n : Int) (h0 : 0 ≤ n) (h1 : n ≤ 2932896) : IsDate n (ofD n) := by
  obtain ⟨p, hp⟩ := exists_date n h0 h1
  rw [ofD_eq hp]
  exact hp
theorem date_bounds {n : Int} {p : Int × Int × Int} (h : IsDate n p) : (1970 ≤ p.1 ∧ p.1 ≤ 9999) ∧ (1 ≤ p.2.1 ∧ p.2.1 ≤ 12) ∧ (1 ≤ p.2.2 ∧ p.2.2 ≤ 31) := by
  have a := right_iff.1 h.1
  have b := right_month h.1
  have c := len_bd p.1 p.2.1
  omega
theorem parse_head (t : Int) (h0 : 0 ≤ t) (h1 : t < 253402300800) (z : List UInt8) (sg zh zm : Int) (hz : zone z false = (sg, zh, zm, false)) (b1 : 0 ≤ zh ∧ zh ≤ 23) (b2 : 0 ≤ zm ∧ zm ≤ 59) :
    parse (headOf (ofD (t / 86400)) (t % 86400) z) = if t + sg * (zh * 3600 + zm * 60) < 0 ∨ t + sg * (zh * 3600 + zm * 60) ≥ 253402300800 then (0, 1) else (t + sg * (zh * 3600 + zm * 60), 0) := by
  have hd := ofD_is (t / 86400) (by omega) (by omega)
  have hb := date_bounds hd
  unfold parse
  rw [shape_head _ _ _ (by omega) (by omega) (by omega) (by omega), hz]
  simp only [parse2]
  have e1 : (days (ofD (t / 86400)).1 (ofD (t / 86400)).2.1 (ofD (t / 86400)).2.2).1 = t / 86400 := hd.2
  have e2 : (days (ofD (t / 86400)).1 (ofD (t / 86400)).2.1 (ofD (t / 86400)).2.2).2 = 0 := by rw [days_val hd.1]
  rw [e1, e2]
  have e3 : time (t / 86400) (t % 86400 / 3600) (t % 86400 / 60 % 60) (t % 86400 % 60) (sg, zh, zm, false) = t + sg * (zh * 3600 + zm * 60) := by
    unfold time
    simp only
    generalize sg * (zh * 3600 + zm * 60) = q
    omega
  rw [e3]
  simp only [if_neg (show ¬ (false = true) by decide)]
  by_cases hc : t + sg * (zh * 3600 + zm * 60) < 0 ∨ t + sg * (zh * 3600 + zm * 60) ≥ 253402300800
  · rw [if_pos hc, if_pos (by omega)]
  · rw [if_neg hc, if_neg (by omega)]
theorem parse_text (t : Int) (h0 : 0 ≤ t) (h1 : t < 253402300800) : parse (text t) = (t, 0) := by
  rw [text_head, parse_head t h0 h1 [90] 0 0 0 zone_z (by omega) (by omega)]
  simp only [Int.zero_mul, Int.add_zero]
  rw [if_neg (by omega)]
theorem parse_range {s : List UInt8} (h : (parse s).2 = 0) : 0 ≤ (parse s).1 ∧ (parse s).1 < 253402300800 := by
  unfold parse parse2 at h ⊢
  simp only at h ⊢
  split at h
  · simp at h
  · split at h
    · simp at h
    · rename_i h1 h2
      rw [if_neg h1, if_neg h2]
      simp only
      omega
theorem parse_err (s : List UInt8) : (parse s).2 = 0 ∨ (parse s).2 = 1 ∨ (parse s).2 = 2 := by
  unfold parse parse2
  simp only
  split
  · simp
  · split <;> simp
end DtCal
namespace DtCal
open Go
theorem dg_lt (a b : Int) : (dg a < dg b) ↔ a % 10 < b % 10 := by
  have x := dg_val a
  have y := dg_val b
  rw [UInt8.lt_iff_toNat_lt]
  omega
theorem dg_eq (a b : Int) : (dg a = dg b) ↔ a % 10 = b % 10 := by
  have x := dg_val a
  have y := dg_val b
  rw [← UInt8.toNat_inj]
  omega
theorem less_same (c : UInt8) (r r' : List UInt8) : Op.bytesLess (c :: r) (c :: r') = Op.bytesLess r r' := by
  simp [Op.bytesLess]
theorem less_pair (a b : Int) (r r' : List UInt8) : Op.bytesLess (dg (a / 10) :: dg a :: r) (dg (b / 10) :: dg b :: r') = (decide (a % 100 < b % 100) || (decide (a % 100 = b % 100) && Op.bytesLess r r')) := by
  simp only [Op.bytesLess]
  rw [Bool.eq_iff_iff]
  simp only [Bool.or_eq_true, Bool.and_eq_true, decide_eq_true_eq, beq_iff_eq, dg_lt, dg_eq]
  constructor
  · rintro (h | ⟨h, h' | ⟨h', h''⟩⟩)
    · left; omega
    · left; omega
    · right; exact ⟨by omega, h''⟩
  · rintro (h | ⟨h, h'⟩)
    · by_cases e : a / 10 % 10 = b / 10 % 10
      · right; exact ⟨e, .inl (by omega)⟩
      · left; omega
    · right; exact ⟨by omega, .inr ⟨by omega, h'⟩⟩
theorem less_head (p p' : Int × Int × Int) (s s' : Int) (h1 : 0 ≤ p.1 ∧ p.1 ≤ 9999) (h1' : 0 ≤ p'.1 ∧ p'.1 ≤ 9999) (h2 : 0 ≤ p.2.1 ∧ p.2.1 ≤ 99) (h2' : 0 ≤ p'.2.1 ∧ p'.2.1 ≤ 99) (h3 : 0 ≤ p.2.2 ∧ p.2.2 ≤ 99) (h3' : 0 ≤ p'.2.2 ∧ p'.2.2 ≤ 99)
    (h4 : 0 ≤ s ∧ s < 86400) (h4' : 0 ≤ s' ∧ s' < 86400)
    (h : p.1 < p'.1 ∨ p.1 = p'.1 ∧ (p.2.1 < p'.2.1 ∨ p.2.1 = p'.2.1 ∧ (p.2.2 < p'.2.2 ∨ p.2.2 = p'.2.2 ∧ s < s'))) :
    Op.bytesLess (headOf p s [90]) (headOf p' s' [90]) = true := by
  have e1 : p.1 / 1000 = p.1 / 100 / 10 := by omega
  have e1' : p'.1 / 1000 = p'.1 / 100 / 10 := by omega
  unfold headOf
  rw [e1, e1', less_pair, less_pair, less_same, less_pair, less_same, less_pair, less_same, less_pair, less_same, less_pair, less_same, less_pair]
  simp only [Bool.or_eq_true, Bool.and_eq_true, decide_eq_true_eq]
  omega
theorem date_lt {n n' : Int} {p p' : Int × Int × Int} (h : IsDate n p) (h' : IsDate n' p') (hn : n < n') : p.1 < p'.1 ∨ p.1 = p'.1 ∧ (p.2.1 < p'.2.1 ∨ p.2.1 = p'.2.1 ∧ p.2.2 < p'.2.2) := by
  obtain ⟨y, m, d⟩ := p
  obtain ⟨y', m', d'⟩ := p'
  obtain ⟨hr, hv⟩ := h
  obtain ⟨hr', hv'⟩ := h'
  simp only at hr hv hr' hv' ⊢
  rw [days_val hr] at hv
  rw [days_val hr'] at hv'
  simp only at hv hv'
  have a := in_year hr
  have a' := in_year hr'
  have r := right_iff.1 hr
  have r' := right_iff.1 hr'
  rcases Int.lt_trichotomy y y' with hlt | rfl | hgt
  · exact .inl hlt
  · right
    refine ⟨rfl, ?_⟩
    rcases Int.lt_trichotomy m m' with hlt | rfl | hgt
    · exact .inl hlt
    · exact .inr ⟨rfl, by omega⟩
    · exfalso
      have := cum_mono y m'.toNat (m.toNat - 1) (by omega)
      omega
  · exfalso
    have := dby_mono (y' + 1) y (by omega) (by omega)
    have := dby_succ y' (by omega)
    omega
theorem text_lt {t t' : Int} (h0 : 0 ≤ t) (h : t < t') (h1 : t' < 253402300800) : Op.bytesLess (text t) (text t') = true := by
  have hd := ofD_is (t / 86400) (by omega) (by omega)
  have hd' := ofD_is (t' / 86400) (by omega) (by omega)
  have b := date_bounds hd
  have b' := date_bounds hd'
  rw [text_head, text_head]
  refine less_head _ _ _ _ (by omega) (by omega) (by omega) (by omega) (by omega) (by omega) (by omega) (by omega) ?_
  by_cases e : t / 86400 = t' / 86400
  · rw [e]
    omega
  · have := date_lt hd hd' (by omega)
    omega
/-- The day behind a day. -/
theorem next_day {n : Int} {y m d : Int} (h : IsDate n (y, m, d)) (hn : n ≤ 2932895) :
    IsDate (n + 1) (if d < len y m then (y, m, d + 1) else if m < 12 then (y, m + 1, 1) else (y + 1, 1, 1)) := by
  obtain ⟨hr, hv⟩ := h
  simp only at hr hv
  have hv2 := hv
  rw [days_val hr] at hv2
  simp only at hv2
  have r := right_iff.1 hr
  have hm := right_month hr
  obtain ⟨k, rfl⟩ : ∃ k : Nat, m = k + 1 := ⟨m.toNat - 1, by omega⟩
  have e : ((k : Int) + 1).toNat - 1 = k := by omega
  rw [e] at hv2
  have hs : cum y (k + 1) = cum y k + len y (k + 1) := rfl
  split
  · rename_i hd
    have hr2 : right y (k + 1) (d + 1) = true := right_iff.2 ⟨by omega, by omega, by omega, by omega, by omega⟩
    refine ⟨hr2, ?_⟩
    simp only
    rw [days_val hr2, e]
    simp only
    omega
  · split
    · rename_i hd hm2
      have := len_lo y (k + 1 + 1) (by omega) (by omega)
      have hr2 : right y (k + 1 + 1) 1 = true := right_iff.2 ⟨by omega, by omega, by omega, by omega, by omega⟩
      refine ⟨hr2, ?_⟩
      simp only
      rw [days_val hr2, show ((k : Int) + 1 + 1).toNat - 1 = k + 1 by omega]
      simp only
      omega
    · rename_i hd hm2
      obtain rfl : k = 11 := by omega
      have h12 : cum y (11 + 1) = 365 + lp y := (cum_all y).2.2.2.2.2.2.2.2.2.2.2.2
      have hyr := dby_succ y (by omega)
      have hs12 : cum y 12 = cum y 11 + len y (11 + 1) := rfl
      have hy : y < 9999 := by
        rcases Int.lt_or_le y 9999 with h' | h'
        · exact h'
        · obtain rfl : y = 9999 := by omega
          have e9 : dby (9999 + 1) = 3652059 := by decide
          omega
      have := len_lo (y + 1) 1 (by omega) (by omega)
      have hr2 : right (y + 1) 1 1 = true := right_iff.2 ⟨by omega, by omega, by omega, by omega, by omega⟩
      refine ⟨hr2, ?_⟩
      simp only
      rw [days_val hr2]
      simp only [show (1 : Int).toNat - 1 = 0 from rfl, (cum_all (y + 1)).1]
      omega
end DtCal
