/-
  The reference's numbers at the front of a text, and its enhanced codes: the same as the program's.
-/
import Derived.Test.YtfeedokfcebjjaaDoorRpLaw2
import Derived.Test.YtfeedokfcebjjaaDoorRrA
set_option linter.unusedVariables false
set_option linter.unusedSimpArgs false
namespace Rr
open Rp
/-- What digits spell. -/
def dec (l : List UInt8) : Int := l.foldl (fun n x => n * 10 + ((x.toNat : Int) - 48)) 0
theorem dec_snoc (l : List UInt8) (x : UInt8) : dec (l ++ [x]) = dec l * 10 + ((x.toNat : Int) - 48) := by simp [dec]
theorem dgt_iff {x : UInt8} : dgt x = true ↔ 48 ≤ (x.toNat : Int) ∧ (x.toNat : Int) ≤ 57 := by simp only [dgt, decide_eq_true_eq]; omega
theorem dec_bound : ∀ (l : List UInt8), l.all dgt = true → l.length ≤ 4 → 0 ≤ dec l ∧ dec l ≤ 9999
  | [], _, _ => by simp [dec]
  | [x], h, _ => by
    simp only [List.all_cons, List.all_nil, Bool.and_true, dgt_iff] at h
    simp [dec]; omega
  | [x, y], h, _ => by
    simp only [List.all_cons, List.all_nil, Bool.and_true, Bool.and_eq_true, dgt_iff] at h
    simp [dec]; omega
  | [x, y, z], h, _ => by
    simp only [List.all_cons, List.all_nil, Bool.and_true, Bool.and_eq_true, dgt_iff] at h
    simp [dec]; omega
  | [x, y, z, u], h, _ => by
    simp only [List.all_cons, List.all_nil, Bool.and_true, Bool.and_eq_true, dgt_iff] at h
    simp [dec]; omega
  | x :: y :: z :: u :: v :: r, h, hl => by simp only [List.length_cons] at hl; omega
/-- The digits at the front, four at most. -/
def pre (u : List UInt8) : List UInt8 := (u.take 4).takeWhile dgt
/-- A number at the front of a text, and how many digits it has. -/
def num (u : List UInt8) : Option (Int × Nat) :=
  if (pre u).length = 0 ∨ 3 < (pre u).length ∨ (1 < (pre u).length ∧ u.head? = some 48) then none else some (dec (pre u), (pre u).length)
theorem takeWhile_append_stop {p : UInt8 → Bool} : ∀ {a : List UInt8} {x : UInt8} {r : List UInt8}, a.all p = true → p x = false → (a ++ x :: r).takeWhile p = a
  | [], x, r, _, hx => by simp [List.takeWhile, hx]
  | y :: a, x, r, h, hx => by
    simp only [List.all_cons, Bool.and_eq_true] at h
    simp [List.takeWhile, h.1, takeWhile_append_stop h.2 hx]
theorem takeWhile_all {p : UInt8 → Bool} : ∀ {a : List UInt8}, a.all p = true → a.takeWhile p = a
  | [], _ => rfl
  | y :: a, h => by
    simp only [List.all_cons, Bool.and_eq_true] at h
    simp [List.takeWhile, h.1, takeWhile_all h.2]
/-- Where the walk over the digits stops. -/
theorem pre_stop {u : List UInt8} {j : Nat} (h : (u.take j).all dgt = true) (hj : j ≤ 4) (hl : j ≤ u.length) (hs : j = 4 ∨ u.length = j ∨ ∃ x, u[j]? = some x ∧ dgt x = false) : pre u = u.take j := by
  unfold pre
  rcases hs with rfl | hs | ⟨x, hx, hd⟩
  · exact takeWhile_all h
  · rw [List.take_of_length_le (by omega), List.take_of_length_le (by omega)] at *
    exact takeWhile_all h
  · by_cases h4 : j = 4
    · subst h4; exact takeWhile_all h
    · obtain ⟨hjl, hx2⟩ := List.getElem?_eq_some_iff.1 hx
      have e : u.take 4 = u.take j ++ x :: ((u.drop (j + 1)).take (4 - (j + 1))) := by
        conv => lhs; rw [← List.take_append_drop j u, List.drop_eq_getElem_cons hjl, hx2]
        rw [List.take_append, List.length_take, Nat.min_eq_left (by omega), List.take_of_length_le (by simp; omega), show 4 - j = (4 - (j + 1)) + 1 by omega, List.take_succ_cons]
      rw [e]
      exact takeWhile_append_stop h hd
/-- A number, and a sign behind it; what is behind that. -/
def num1 (sep : UInt8) (u : List UInt8) : Option (Int × List UInt8) := match num u with
  | some (n, k) => if u[k]? = some sep then some (n, u.drop (k + 1)) else none
  | none => none
/-- What digits spell is printed as they. -/
theorem byte_ext {x y : UInt8} (h : (x.toNat : Int) = (y.toNat : Int)) : x = y := UInt8.toNat_inj.1 (by omega)
theorem itoa_dec (l : List UInt8) (h : l.all dgt = true) (h0 : l.length ≠ 0) (h3 : l.length ≤ 3) (hz : ¬ (1 < l.length ∧ l.head? = some 48)) : 0 ≤ dec l ∧ dec l ≤ 999 ∧ Go.Lib.itoa (dec l) = l := by
  match l, h0, h3 with
  | [x], _, _ =>
    simp only [List.all_cons, List.all_nil, Bool.and_true, dgt_iff] at h
    obtain ⟨n, hn⟩ : ∃ n : Nat, (x.toNat : Int) - 48 = (n : Int) := ⟨x.toNat - 48, by omega⟩
    have e : dec [x] = (n : Int) := by simp [dec]; omega
    obtain ⟨x', hx', hd⟩ := Go.Proofs.YtfeedokfcebjjaaDoor.dec_one n (by omega)
    rw [e, Go.Lib.itoa_nonneg, hd]
    exact ⟨by omega, by omega, by rw [byte_ext (x := x') (y := x) (by omega)]⟩
  | [x, y], _, _ =>
    simp only [List.all_cons, List.all_nil, Bool.and_true, Bool.and_eq_true, dgt_iff] at h
    have hx0 : x ≠ 48 := fun q => hz ⟨by simp, by rw [q]; rfl⟩
    have hx1 : (x.toNat : Int) ≠ 48 := fun q => hx0 (byte_ext (by rw [q]; rfl))
    obtain ⟨n, hn⟩ : ∃ n : Nat, ((x.toNat : Int) - 48) * 10 + ((y.toNat : Int) - 48) = (n : Int) := ⟨(x.toNat - 48) * 10 + (y.toNat - 48), by omega⟩
    have e : dec [x, y] = (n : Int) := by simp [dec]; omega
    obtain ⟨y', hy', hd⟩ := Go.Proofs.YtfeedokfcebjjaaDoor.dec_more n (by omega)
    obtain ⟨x', hx', hd2⟩ := Go.Proofs.YtfeedokfcebjjaaDoor.dec_one (n / 10) (by omega)
    rw [e, Go.Lib.itoa_nonneg, hd, hd2]
    exact ⟨by omega, by omega, by rw [byte_ext (x := x') (y := x) (by omega), byte_ext (x := y') (y := y) (by omega)]; rfl⟩
  | [x, y, z], _, _ =>
    simp only [List.all_cons, List.all_nil, Bool.and_true, Bool.and_eq_true, dgt_iff] at h
    have hx0 : x ≠ 48 := fun q => hz ⟨by simp, by rw [q]; rfl⟩
    have hx1 : (x.toNat : Int) ≠ 48 := fun q => hx0 (byte_ext (by rw [q]; rfl))
    obtain ⟨n, hn⟩ : ∃ n : Nat, ((x.toNat : Int) - 48) * 100 + ((y.toNat : Int) - 48) * 10 + ((z.toNat : Int) - 48) = (n : Int) := ⟨(x.toNat - 48) * 100 + (y.toNat - 48) * 10 + (z.toNat - 48), by omega⟩
    have e : dec [x, y, z] = (n : Int) := by simp [dec]; omega
    obtain ⟨z', hz', hd⟩ := Go.Proofs.YtfeedokfcebjjaaDoor.dec_more n (by omega)
    obtain ⟨y', hy', hd2⟩ := Go.Proofs.YtfeedokfcebjjaaDoor.dec_more (n / 10) (by omega)
    obtain ⟨x', hx', hd3⟩ := Go.Proofs.YtfeedokfcebjjaaDoor.dec_one (n / 10 / 10) (by omega)
    rw [e, Go.Lib.itoa_nonneg, hd, hd2, hd3]
    exact ⟨by omega, by omega, by rw [byte_ext (x := x') (y := x) (by omega), byte_ext (x := y') (y := y) (by omega), byte_ext (x := z') (y := z) (by omega)]; rfl⟩
theorem takeWhile_all_p {p : UInt8 → Bool} : ∀ (a : List UInt8), (a.takeWhile p).all p = true
  | [] => rfl
  | y :: a => by
    cases h : p y with
    | true => simp only [List.takeWhile, h, List.all_cons, Bool.true_and]; exact takeWhile_all_p a
    | false => simp [List.takeWhile, h]
theorem takeWhile_front {p : UInt8 → Bool} : ∀ (a : List UInt8), a.takeWhile p = a.take (a.takeWhile p).length
  | [] => rfl
  | y :: a => by
    cases h : p y with
    | true => simp only [List.takeWhile, h, List.length_cons, List.take_succ_cons]; rw [← takeWhile_front a]
    | false => simp [List.takeWhile, h]
theorem pre_front (u : List UInt8) : pre u = u.take (pre u).length := by
  have h := takeWhile_front (p := dgt) (u.take 4)
  have hl : (pre u).length ≤ 4 := by
    have := (List.takeWhile_sublist dgt (l := u.take 4)).length_le
    unfold pre
    rw [List.length_take] at this
    omega
  conv => lhs; unfold pre; rw [h]
  rw [List.take_take]
  congr 1
  unfold pre at hl ⊢
  omega
theorem num_some {u : List UInt8} {n : Int} {k : Nat} (h : num u = some (n, k)) : 0 ≤ n ∧ n ≤ 999 ∧ u.take k = Go.Lib.itoa n ∧ k = (Go.Lib.itoa n).length ∧ k ≤ u.length := by
  unfold num at h
  split at h
  · cases h
  · rename_i hc
    injection h with h
    injection h with h1 h2
    subst h1 h2
    have hall : (pre u).all dgt = true := takeWhile_all_p _
    have hfr := pre_front u
    have hle : (pre u).length ≤ u.length := by
      have := congrArg List.length hfr
      rw [List.length_take] at this
      omega
    obtain ⟨q1, q2, q3⟩ := itoa_dec (pre u) hall (fun q => hc (.inl q)) (by rcases Nat.lt_or_ge 3 (pre u).length with q | q; exact absurd (.inr (.inl q)) hc; exact q) (fun q => hc (.inr (.inr ⟨q.1, by
      have h1 := q.2
      have hne : 0 < (pre u).length := by omega
      rw [hfr] at h1
      cases u with
      | nil => simp at h1
      | cons x r =>
        obtain ⟨m, hm⟩ : ∃ m, (pre (x :: r)).length = m + 1 := ⟨(pre (x :: r)).length - 1, by omega⟩
        rw [hm, List.take_succ_cons] at h1
        exact h1⟩)))
    exact ⟨q1, q2, by rw [q3, ← hfr], by rw [q3], hle⟩
theorem num1_some {sep : UInt8} {u : List UInt8} {n : Int} {r : List UInt8} (h : num1 sep u = some (n, r)) : 0 ≤ n ∧ n ≤ 999 ∧ u = Go.Lib.itoa n ++ sep :: r := by
  unfold num1 at h
  split at h
  · rename_i n' k hn
    split at h
    · rename_i hs
      injection h with h
      injection h with h1 h2
      subst h1 h2
      obtain ⟨q1, q2, q3, q4, q5⟩ := num_some hn
      refine ⟨q1, q2, ?_⟩
      obtain ⟨hkl, hx⟩ := List.getElem?_eq_some_iff.1 hs
      conv => lhs; rw [← List.take_append_drop k u, List.drop_eq_getElem_cons hkl, hx, q3]
    · cases h
  · cases h
theorem itoa_form (n : Int) (h0 : 0 ≤ n) (h1 : n ≤ 999) : (Go.Lib.itoa n).all dgt = true ∧ (Go.Lib.itoa n).length ≠ 0 ∧ (Go.Lib.itoa n).length ≤ 3 ∧ ¬ (1 < (Go.Lib.itoa n).length ∧ (Go.Lib.itoa n).head? = some 48) ∧ dec (Go.Lib.itoa n) = n := by
  obtain ⟨k, rfl⟩ : ∃ k : Nat, n = (k : Int) := ⟨n.toNat, by omega⟩
  rw [Go.Lib.itoa_nonneg]
  by_cases k1 : k < 10
  · obtain ⟨x, hx, hd⟩ := Go.Proofs.YtfeedokfcebjjaaDoor.dec_one k k1
    rw [hd]
    refine ⟨by simp only [List.all_cons, List.all_nil, Bool.and_true, dgt_iff]; omega, by simp, by simp, by simp, by simp [dec]; omega⟩
  · obtain ⟨y, hy, hd⟩ := Go.Proofs.YtfeedokfcebjjaaDoor.dec_more k (by omega)
    by_cases k2 : k < 100
    · obtain ⟨x, hx, hd2⟩ := Go.Proofs.YtfeedokfcebjjaaDoor.dec_one (k / 10) (by omega)
      rw [hd, hd2]
      refine ⟨by simp only [List.cons_append, List.nil_append, List.all_cons, List.all_nil, Bool.and_true, Bool.and_eq_true, dgt_iff]; omega, by simp, by simp, ?_, by simp [dec]; omega⟩
      rintro ⟨_, q⟩
      simp at q
      subst q
      have : ((48 : UInt8).toNat : Int) = 48 := rfl
      omega
    · obtain ⟨x, hx, hd2⟩ := Go.Proofs.YtfeedokfcebjjaaDoor.dec_more (k / 10) (by omega)
      obtain ⟨v, hv, hd3⟩ := Go.Proofs.YtfeedokfcebjjaaDoor.dec_one (k / 10 / 10) (by omega)
      rw [hd, hd2, hd3]
      refine ⟨by simp only [List.cons_append, List.nil_append, List.all_cons, List.all_nil, Bool.and_true, Bool.and_eq_true, dgt_iff]; omega, by simp, by simp, ?_, by simp [dec]; omega⟩
      rintro ⟨_, q⟩
      simp at q
      subst q
      have : ((48 : UInt8).toNat : Int) = 48 := rfl
      omega
theorem num1_of (sep : UInt8) (hs : dgt sep = false) (n : Int) (h0 : 0 ≤ n) (h1 : n ≤ 999) (r : List UInt8) : num1 sep (Go.Lib.itoa n ++ sep :: r) = some (n, r) := by
  obtain ⟨q1, q2, q3, q4, q5⟩ := itoa_form n h0 h1
  generalize Go.Lib.itoa n = d at *
  have hp : pre (d ++ sep :: r) = d := by
    have := pre_stop (u := d ++ sep :: r) (j := d.length) (by rw [List.take_left']; exact q1; rfl) (by omega) (by simp) (.inr (.inr ⟨sep, by simp, hs⟩))
    rw [this, List.take_left' rfl]
  unfold num1 num
  rw [hp, if_neg (by
    rintro (q | q | ⟨q, q'⟩)
    · exact q2 q
    · omega
    · refine q4 ⟨q, ?_⟩
      cases d with
      | nil => simp at q
      | cons x d => simpa using q')]
  simp only
  rw [if_pos (by simp), q5]
  congr 2
  have e : (d ++ sep :: r) = (d ++ [sep]) ++ r := by simp
  rw [e, List.drop_left' (by simp)]
/-- The reference's enhanced code at the front of a text. -/
def rd (code : Int) (s : List UInt8) : Int × Int × Int × List UInt8 × Bool := match num1 46 s with
  | none => (0, 0, 0, [], false)
  | some (a, s1) => match num1 46 s1 with
    | none => (0, 0, 0, [], false)
    | some (b, s2) => match num1 32 s2 with
      | none => (0, 0, 0, [], false)
      | some (c, s3) => if none3 a b c = true ∨ fits code a b c = false then (0, 0, 0, [], false) else (a, b, c, s3, true)
theorem rd_some {code : Int} {s : List UInt8} {a b c : Int} {s1 s2 s3 : List UInt8} (h1 : num1 46 s = some (a, s1)) (h2 : num1 46 s1 = some (b, s2)) (h3 : num1 32 s2 = some (c, s3)) :
    rd code s = if none3 a b c = true ∨ fits code a b c = false then (0, 0, 0, [], false) else (a, b, c, s3, true) := by
  unfold rd; rw [h1]; simp only; rw [h2]; simp only; rw [h3]
theorem rd_1 {code : Int} {s : List UInt8} (h : num1 46 s = none) : rd code s = (0, 0, 0, [], false) := by unfold rd; rw [h]
theorem rd_2 {code : Int} {s s1 : List UInt8} {a : Int} (h1 : num1 46 s = some (a, s1)) (h : num1 46 s1 = none) : rd code s = (0, 0, 0, [], false) := by unfold rd; rw [h1]; simp only; rw [h]
theorem rd_3 {code : Int} {s s1 s2 : List UInt8} {a b : Int} (h1 : num1 46 s = some (a, s1)) (h2 : num1 46 s1 = some (b, s2)) (h : num1 32 s2 = none) : rd code s = (0, 0, 0, [], false) := by unfold rd; rw [h1]; simp only; rw [h2]; simp only; rw [h]
/-- The reference reads just what the program reads. -/
theorem rd_same (code : Int) (s : List UInt8) : rd code s = Rp.rd code s := by
  have fwd : ∀ a b c s1 s2 s3, num1 46 s = some (a, s1) → num1 46 s1 = some (b, s2) → num1 32 s2 = some (c, s3) → ¬ (none3 a b c = true ∨ fits code a b c = false) → Rp.rd code s = (a, b, c, s3, true) := fun a b c s1 s2 s3 h1 h2 h3 hn => by
    obtain ⟨a0, a1, e1⟩ := num1_some h1
    obtain ⟨b0, b1, e2⟩ := num1_some h2
    obtain ⟨c0, c1, e3⟩ := num1_some h3
    have hnone : none3 a b c = false := by cases hq : none3 a b c with | false => rfl | true => exact absurd (.inl hq) hn
    have hfit : fits code a b c = true := by cases hq : fits code a b c with | true => rfl | false => exact absurd (.inr hq) hn
    have := rd_enh hfit hnone s3
    rw [enh_eq hnone] at this
    rw [← this]
    congr 1
    rw [e1, e2, e3]
    simp
  cases hf : (Rp.rd code s).2.2.2.2 with
  | true =>
    obtain ⟨a, b, c, r, e⟩ : ∃ a b c r, Rp.rd code s = (a, b, c, r, true) := ⟨_, _, _, _, by rw [← hf]⟩
    obtain ⟨hfit, hnone, hs⟩ := Rp.rd_true e
    rw [e]
    rw [enh_eq hnone] at hs
    have hr : 0 ≤ a ∧ a ≤ 999 ∧ 0 ≤ b ∧ b ≤ 999 ∧ 0 ≤ c ∧ c ≤ 999 := by
      rcases fits_iff.1 hfit with q | q
      · omega
      · rcases cls_01 code with z | z <;> omega
    have e1 : num1 46 s = some (a, Go.Lib.itoa b ++ 46 :: (Go.Lib.itoa c ++ 32 :: r)) := by
      rw [hs, ← num1_of 46 (by decide) a hr.1 hr.2.1]
      congr 1
      simp
    rw [rd_some e1 (num1_of 46 (by decide) b hr.2.2.1 hr.2.2.2.1 _) (num1_of 32 (by decide) c hr.2.2.2.2.1 hr.2.2.2.2.2 _), if_neg (by rw [hnone, hfit]; simp)]
  | false =>
    rw [Rp.rd_false hf]
    cases h1 : num1 46 s with
    | none => exact rd_1 h1
    | some p =>
      obtain ⟨a, s1⟩ := p
      cases h2 : num1 46 s1 with
      | none => exact rd_2 h1 h2
      | some p =>
        obtain ⟨b, s2⟩ := p
        cases h3 : num1 32 s2 with
        | none => exact rd_3 h1 h2 h3
        | some p =>
          obtain ⟨c, s3⟩ := p
          rw [rd_some h1 h2 h3]
          by_cases hn : none3 a b c = true ∨ fits code a b c = false
          · rw [if_pos hn]
          · rw [fwd a b c s1 s2 s3 h1 h2 h3 hn] at hf
            cases hf
/-- What 'number' says at a place. -/
def numAt (s : List UInt8) (at_ : Nat) : Int × Int := match num (s.drop at_) with
  | some (n, k) => (n, ((at_ + k : Nat) : Int))
  | none => (0, -1)
end Rr
