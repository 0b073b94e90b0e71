/-
  Lemmas on the way to DateTells (RfParL): plain laws of a time's text: which shapes are right.
-/
import Derived.Test.YtfbpadkjfdedeaaDoorRfText
import Derived.Test.YtfbpadkjfdedeaaDoorDtLaw
set_option linter.unusedVariables false
set_option linter.unusedSimpArgs false
namespace DtCal
def pat0 : List UInt8 := [48, 48, 48, 48, 45, 48, 48, 45, 48, 48, 84, 48, 48, 58, 48, 48, 58, 48, 48, 90]
def patP : List UInt8 := [48, 48, 48, 48, 45, 48, 48, 45, 48, 48, 84, 48, 48, 58, 48, 48, 58, 48, 48, 43, 48, 48, 58, 48, 48]
def patM : List UInt8 := [48, 48, 48, 48, 45, 48, 48, 45, 48, 48, 84, 48, 48, 58, 48, 48, 58, 48, 48, 45, 48, 48, 58, 48, 48]
theorem okc0 (c : UInt8) : okc c 48 = true ↔ digit c = true := by unfold okc; rw [if_pos rfl]
theorem okc1 (c l : UInt8) (h : l ≠ 48) : okc c l = true ↔ c = l := by unfold okc; rw [if_neg h]; simp
theorem num_ok {s : List UInt8} {b : Bool} {size : Nat} {beh : List UInt8} (h : (num s b size beh).2.2 = false) :
    b = false ∧ ∃ pre, pre.length = size ∧ s = pre ++ beh ++ (num s b size beh).2.1 ∧ pre.all digit = true := by
  unfold num at h ⊢
  by_cases hs : s.length < size
  · rw [if_pos hs] at h; cases h
  · rw [if_neg hs] at h ⊢
    simp only [Bool.or_eq_false_iff, Bool.not_eq_false'] at h
    obtain ⟨⟨h1, h2⟩, h3⟩ := h
    refine ⟨h1, s.take size, by simp; omega, ?_, ?_⟩
    · simp only [h3, if_true]
      obtain ⟨r, hr⟩ := List.isPrefixOf_iff_prefix.1 h3
      rw [← hr, List.drop_left, List.append_assoc, hr, List.take_append_drop]
    · rw [List.all_eq_true]
      intro c hc
      have := List.any_eq_false.1 h2 c hc
      simpa using this
theorem num_ok' {s : List UInt8} {b : Bool} {size : Nat} {beh : List UInt8} {r : Int × List UInt8 × Bool} (e : num s b size beh = r) (h : r.2.2 = false) :
    b = false ∧ ∃ pre, pre.length = size ∧ s = pre ++ beh ++ r.2.1 ∧ pre.all digit = true := by
  subst e; exact num_ok h
theorem zone_ok {s : List UInt8} {b : Bool} (h : (zone s b).2.2.2 = false) : b = false ∧ (s = [90] ∨ ∃ c p q, (c = 43 ∨ c = 45) ∧ p.length = 2 ∧ q.length = 2 ∧ p.all digit = true ∧ q.all digit = true ∧ s = c :: p ++ 58 :: q) := by
  unfold zone at h
  by_cases hp : [43].isPrefixOf s = true
  · simp only [hp, if_true] at h
    rw [if_neg (by decide)] at h
    simp only [Bool.or_eq_false_iff, Bool.not_eq_false'] at h
    obtain ⟨h1, h2⟩ := h
    obtain ⟨h3, q, hq, eq, dq⟩ := num_ok h1
    obtain ⟨h4, p, hp', ep, dp⟩ := num_ok h3
    refine ⟨h4, .inr ⟨43, p, q, .inl rfl, hp', hq, dp, dq, ?_⟩⟩
    obtain ⟨r, hr⟩ := List.isPrefixOf_iff_prefix.1 hp
    have h2' := eq_of_beq h2
    rw [h2'] at eq
    rw [← hr] at ep eq ⊢
    simp only [List.singleton_append, List.drop_succ_cons, List.drop_zero, List.append_nil] at ep eq ⊢
    rw [eq] at ep
    rw [ep]
    simp
  · simp only [hp] at h
    by_cases hm : [45].isPrefixOf s = true
    · simp only [hm, if_true] at h
      rw [if_neg (by decide)] at h
      simp only [Bool.or_eq_false_iff, Bool.not_eq_false'] at h
      obtain ⟨h1, h2⟩ := h
      obtain ⟨h3, q, hq, eq, dq⟩ := num_ok h1
      obtain ⟨h4, p, hp', ep, dp⟩ := num_ok h3
      refine ⟨h4, .inr ⟨45, p, q, .inr rfl, hp', hq, dp, dq, ?_⟩⟩
      obtain ⟨r, hr⟩ := List.isPrefixOf_iff_prefix.1 hm
      have h2' := eq_of_beq h2
      rw [h2'] at eq
      rw [← hr] at ep eq ⊢
      simp only [List.singleton_append, List.drop_succ_cons, List.drop_zero, List.append_nil] at ep eq ⊢
      rw [eq] at ep
      rw [ep]
      simp
    · simp only [hm] at h
      simp at h
      exact ⟨h.1, .inl h.2⟩
theorem two {p : List UInt8} (h : p.length = 2) : ∃ a b, p = [a, b] := by
  match p, h with
  | [a, b], _ => exact ⟨a, b, rfl⟩
theorem four {p : List UInt8} (h : p.length = 4) : ∃ a b c d, p = [a, b, c, d] := by
  match p, h with
  | [a, b, c, d], _ => exact ⟨a, b, c, d, rfl⟩
/-- A text that is told has one of the three shapes. -/
theorem told {s : List UInt8} (h : (shape s).2.2.2.2.2 = false) : shp s pat0 = true ∨ shp s patP = true ∨ shp s patM = true := by
  obtain ⟨r1, n1⟩ : ∃ r, num s false 4 [45] = r := ⟨_, rfl⟩
  obtain ⟨r2, n2⟩ : ∃ r, num r1.2.1 r1.2.2 2 [45] = r := ⟨_, rfl⟩
  obtain ⟨r3, n3⟩ : ∃ r, num r2.2.1 r2.2.2 2 [84] = r := ⟨_, rfl⟩
  obtain ⟨r4, n4⟩ : ∃ r, num r3.2.1 r3.2.2 2 [58] = r := ⟨_, rfl⟩
  obtain ⟨r5, n5⟩ : ∃ r, num r4.2.1 r4.2.2 2 [58] = r := ⟨_, rfl⟩
  obtain ⟨r6, n6⟩ : ∃ r, num r5.2.1 r5.2.2 2 [] = r := ⟨_, rfl⟩
  simp only [shape, n1, n2, n3, n4, n5, n6] at h
  obtain ⟨h6, hz⟩ := zone_ok h
  obtain ⟨h5, p6, l6, e6, d6⟩ := num_ok' n6 h6
  obtain ⟨h4, p5, l5, e5, d5⟩ := num_ok' n5 h5
  obtain ⟨h3, p4, l4, e4, d4⟩ := num_ok' n4 h4
  obtain ⟨h2, p3, l3, e3, d3⟩ := num_ok' n3 h3
  obtain ⟨h1, p2, l2, e2, d2⟩ := num_ok' n2 h2
  obtain ⟨-, p1, l1, e1, d1⟩ := num_ok' n1 h1
  generalize r6.2.1 = z at hz e6
  rw [e6] at e5
  rw [e5] at e4
  rw [e4] at e3
  rw [e3] at e2
  rw [e2] at e1
  rw [e1]
  clear n1 n2 n3 n4 n5 n6
  clear e1 e2 e3 e4 e5 e6 h h1 h2 h3 h4 h5 h6
  obtain ⟨a1, a2, a3, a4, rfl⟩ := four l1
  obtain ⟨b1, b2, rfl⟩ := two l2
  obtain ⟨c1, c2, rfl⟩ := two l3
  obtain ⟨f1, f2, rfl⟩ := two l4
  obtain ⟨g1, g2, rfl⟩ := two l5
  obtain ⟨k1, k2, rfl⟩ := two l6
  simp only [List.all_cons, List.all_nil, Bool.and_true, Bool.and_eq_true] at d1 d2 d3 d4 d5 d6
  rcases hz with rfl | ⟨c, p, q, hc, lp, lq, dp, dq, rfl⟩
  · left
    simp [shp, pat0, okc, d1, d2, d3, d4, d5, d6]
  · obtain ⟨m1, m2, rfl⟩ := two lp
    obtain ⟨n1, n2, rfl⟩ := two lq
    simp only [List.all_cons, List.all_nil, Bool.and_true, Bool.and_eq_true] at dp dq
    rcases hc with rfl | rfl
    · right; left
      simp [shp, patP, okc, d1, d2, d3, d4, d5, d6, dp, dq]
    · right; right
      simp [shp, patM, okc, d1, d2, d3, d4, d5, d6, dp, dq]
end DtCal
