/-
  Lemmas on the way to DateTells (RfParN): what a text of each shape tells.
-/
import Derived.Test.YtfbpadkjfdedeaaDoorRfParL
set_option linter.unusedVariables false
set_option linter.unusedSimpArgs false
namespace DtCal
/-- A text that has none of the three shapes is none. -/
theorem parse_unlike {s : List UInt8} (h0 : shp s pat0 = false) (hP : shp s patP = false) (hM : shp s patM = false) : parse s = (0, 2) := by
  have h : (shape s).2.2.2.2.2 = true := by
    cases hx : (shape s).2.2.2.2.2 with
    | true => rfl
    | false => rcases told hx with h | h | h <;> simp_all
  unfold parse parse2
  simp only
  rw [if_pos h]
/-- The head that all shapes have. -/
def hd (a b c d e f g h i j k l m n : UInt8) (z : List UInt8) : List UInt8 := a :: b :: c :: d :: 45 :: e :: f :: 45 :: g :: h :: 84 :: i :: j :: 58 :: k :: l :: 58 :: m :: n :: z
theorem shp_hd {s z : List UInt8} (h : shp s ([48, 48, 48, 48, 45, 48, 48, 45, 48, 48, 84, 48, 48, 58, 48, 48, 58, 48, 48] ++ z) = true) :
    ∃ a b c d e f g h i j k l m n t, s = hd a b c d e f g h i j k l m n t ∧ shp t z = true ∧ [a, b, c, d].all digit = true ∧ [e, f].all digit = true ∧ [g, h].all digit = true ∧ [i, j].all digit = true ∧ [k, l].all digit = true ∧ [m, n].all digit = true := by
  simp only [List.cons_append, List.nil_append, shp_cons, okc0, okc1 _ 45 (by decide), okc1 _ 84 (by decide), okc1 _ 58 (by decide)] at h
  obtain ⟨a, _, rfl, da, b, _, rfl, db, c, _, rfl, dc, d, _, rfl, dd, _, _, rfl, rfl, e, _, rfl, de, f, _, rfl, df, _, _, rfl, rfl, g, _, rfl, dg, h, _, rfl, dh, _, _, rfl, rfl, i, _, rfl, di, j, _, rfl, dj, _, _, rfl, rfl, k, _, rfl, dk, l, _, rfl, dl, _, _, rfl, rfl, m, _, rfl, dm, n, t, rfl, dn, ht⟩ := h
  exact ⟨a, b, c, d, e, f, g, h, i, j, k, l, m, n, t, rfl, ht, by simp [da, db, dc, dd], by simp [de, df], by simp [dg, dh], by simp [di, dj], by simp [dk, dl], by simp [dm, dn]⟩
theorem any_not {l : List UInt8} (h : l.all digit = true) : (l.any fun c => !digit c) = false := by
  rw [List.any_eq_false]; intro c hc; simpa using List.all_eq_true.1 h c hc
theorem parse_hd {a b c d e f g h i j k l m n : UInt8} {z : List UInt8} (d1 : [a, b, c, d].all digit = true) (d2 : [e, f].all digit = true) (d3 : [g, h].all digit = true) (d4 : [i, j].all digit = true) (d5 : [k, l].all digit = true) (d6 : [m, n].all digit = true) :
    parse (hd a b c d e f g h i j k l m n z) = parse2 (dec [a, b, c, d]) (dec [e, f]) (dec [g, h]) (dec [i, j]) (dec [k, l]) (dec [m, n]) (zone z false) := by
  unfold parse shape hd
  simp only [num4c, num2c, num2e, any_not d1, any_not d2, any_not d3, any_not d4, any_not d5, any_not d6, Bool.or_false]
theorem zone_two {c p q r t : UInt8} (hc : c = 43 ∨ c = 45) (d1 : [p, q].all digit = true) (d2 : [r, t].all digit = true) :
    zone (c :: p :: q :: 58 :: r :: t :: []) false = ((if c = 43 then -1 else 1), dec [p, q], dec [r, t], false) := by
  rcases hc with rfl | rfl
  · simp [zone, num2c, num2e, any_not d1, any_not d2]
  · simp [zone, num2c, num2e, any_not d1, any_not d2]
theorem shp_tail {t : List UInt8} {c : UInt8} (hc : c = 43 ∨ c = 45) (h : shp t [c, 48, 48, 58, 48, 48] = true) : ∃ p q r u, t = [c, p, q, 58, r, u] ∧ [p, q].all digit = true ∧ [r, u].all digit = true := by
  simp only [shp_cons, shp_nil, okc0, okc1 _ 58 (by decide), okc1 _ c (by rcases hc with rfl | rfl <;> decide)] at h
  obtain ⟨_, _, rfl, rfl, p, _, rfl, dp, q, _, rfl, dq, _, _, rfl, rfl, r, _, rfl, dr, u, _, rfl, du, rfl⟩ := h
  exact ⟨p, q, r, u, rfl, by simp [dp, dq], by simp [dr, du]⟩
theorem dec_small2 {a b : UInt8} (h : [a, b].all digit = true) : 0 ≤ dec [a, b] ∧ dec [a, b] ≤ 99 := by
  simp [digit] at h
  simp [dec]; omega
theorem dec_small4 {a b c d : UInt8} (h : [a, b, c, d].all digit = true) : 0 ≤ dec [a, b, c, d] ∧ dec [a, b, c, d] ≤ 9999 := by
  simp [digit] at h
  simp [dec]; omega
end DtCal
