/-
  The plain side of reply's laws, as the walks need it.
-/
import Derived.Test.YtfeedokfcebjjaaDoorRpLaw3
import Derived.Test.YtfeedokfcebjjaaDoorRpSame
set_option linter.unusedVariables false
set_option linter.unusedSimpArgs false
namespace Rp
open Go.Lib Go.Proofs.YtfeedokfcebjjaaDoor.Rp
theorem prs_err : ∀ (l : List ByteArray) (i : Nat) (cd x : Int) (n : Nat) (c : Int), prs i cd l = (x, n, c) → x ≠ 0 → n = 0 ∧ c = 0
  | [], i, cd, x, n, c, h, _ => by simp only [prs, Prod.mk.injEq] at h; exact ⟨h.2.1.symm, h.2.2.symm⟩
  | s :: r, i, cd, x, n, c, h, hx => by
    rw [prs] at h
    split at h
    · simp only [Prod.mk.injEq] at h; exact ⟨h.2.1.symm, h.2.2.symm⟩
    · split at h
      · simp only [Prod.mk.injEq] at h; exact absurd h.1.symm hx
      · exact prs_err r _ _ x n c h hx
theorem size_len (s : ByteArray) : s.size = s.data.toList.length := by simp
theorem behind_size {code : Int} {f : Int × Int × Int} {s : ByteArray} (h : good code f s = true) : (behind code s).size ≤ s.size := by
  have := (rd_true (good_iff h)).2.2
  rw [size_len, size_len, this, List.length_append]
  omega
/-- What body leaves of texts is no longer than they. -/
theorem body_size {c : Int} {t : List ByteArray} {M : Nat} (h : ∀ s ∈ t, s.size ≤ M) : ∀ s ∈ (body c t).2, s.size ≤ M := by
  unfold body
  by_cases hall : t.all (good c (fst3 c t)) = true
  · rw [if_pos hall]
    intro s hs
    obtain ⟨q, hq, rfl⟩ := List.mem_map.1 hs
    exact Nat.le_trans (behind_size (List.all_eq_true.1 hall q hq)) (h q hq)
  · rw [if_neg hall]
    exact h
theorem prn_size {code a b c : Int} {t : List ByteArray} (h : Ok code a b c t) : ∀ s ∈ prn code a b c t, s.size ≤ 1000000 := by
  intro s hs
  obtain ⟨k, hk, rfl⟩ := List.getElem_of_mem hs
  rw [prn_get, size_len]
  have hkt : k < t.length := by rw [prn_length] at hk; exact hk
  have := line_len (a := a) (b := b) (c := c) h.code0 h.code1 t.length k t[k]
  have := h.small t[k] (List.getElem_mem _)
  omega
theorem prn_size4 {code a b c : Int} {t : List ByteArray} (h : Ok code a b c t) : ∀ s ∈ prn code a b c t, 4 ≤ s.size := by
  intro s hs
  obtain ⟨k, hk, rfl⟩ := List.getElem_of_mem hs
  rw [prn_get, size_len]
  have hkt : k < t.length := by rw [prn_length] at hk; exact hk
  have := line_len (a := a) (b := b) (c := c) h.code0 h.code1 t.length k t[k]
  omega
theorem same_self (code a b c : Int) (t : List ByteArray) : same code a b c t code a b c t = true := by
  unfold same
  simp [Go.Proofs.YtfeedokfcebjjaaDoor.same3]
theorem few_len {t : List ByteArray} (h : few t = true) : t.length ≤ 60 ∧ ∀ s ∈ t, s.size ≤ 1000 := by
  unfold few at h
  rw [Bool.and_eq_true, List.all_eq_true] at h
  exact ⟨of_decide_eq_true h.1, fun s hs => of_decide_eq_true (h.2 s hs)⟩
/-- ReplyAgain's plain law. -/
theorem again_plain {l : List ByteArray} {n : Nat} {c f1 f2 f3 : Int} {xs : List ByteArray} (h : prs 0 0 l = (0, n, c)) (hb : body c ((l.take n).map say) = ((f1, f2, f3), xs)) (hs : ∀ s ∈ l, s.size ≤ 1000) :
    (1 ≤ n ∧ n ≤ 32 ∧ n ≤ l.length) ∧ xs.length = n ∧ (∀ s ∈ xs, s.size ≤ 1000000) ∧ (200 ≤ c ∧ c ≤ 599) ∧ (2 ≤ cls c ∧ cls c ≤ 5) ∧ (f1 = 0 ∨ f1 = cls c) ∧ (0 ≤ f2 ∧ f2 ≤ 999) ∧ (0 ≤ f3 ∧ f3 ≤ 999) ∧
      (right c f1 f2 f3 xs = 3 ∨ (right c f1 f2 f3 xs = 0 ∧ ∃ ll, prn c f1 f2 f3 xs = ll ∧ ll.length = n ∧ prs 0 0 ll = (0, n, c) ∧ body c ((ll.take n).map say) = ((f1, f2, f3), xs) ∧ ∀ s ∈ ll, s.size ≤ 1000000)) := by
  obtain ⟨m, h1, h2, h3, h4, h5, h6⟩ := prs_true l 0 0 n c h
  obtain rfl : n = m := by omega
  have hz : ∀ s ∈ (l.take n).map say, s.size ≤ 1000000 := fun s hs2 => by
    obtain ⟨q, hq, rfl⟩ := List.mem_map.1 hs2
    have := say_size q
    have := hs q (List.mem_of_mem_take hq)
    omega
  have hx := body_size (c := c) hz
  obtain ⟨k1, k2, k3⟩ := again_right h
  have hcl := (cls_01 c).resolve_left h5
  rw [hb] at hx k1 k2 k3
  simp only at hx k1 k2 k3
  refine ⟨⟨h2, h4, h3⟩, k1, hx, ⟨hcl.2.2.1, hcl.2.2.2⟩, ⟨hcl.1, hcl.2.1⟩, ?_, ?_, ?_, ?_⟩
  · rcases fits_iff.1 k3 with q | q
    · exact .inl q.1
    · exact .inr q.1
  · rcases fits_iff.1 k3 with q | q <;> omega
  · rcases fits_iff.1 k3 with q | q <;> omega
  · rcases k2 with k2 | k2
    · have hO := ok_of_right k2
      have hlen : (prn c f1 f2 f3 xs).length = n := by rw [prn_length]; exact k1
      refine .inr ⟨k2, _, rfl, hlen, ?_, ?_, prn_size hO⟩
      · have := prs_all hO []
        rw [List.append_nil, show xs.length = n from k1] at this
        exact this
      · rw [List.take_of_length_le (by omega)]
        have := again_body (c := c) (t := (l.take n).map say) (by rw [hb]; exact hO)
        rw [hb] at this
        exact this
    · exact .inl k2
/-- ReplyBack's plain law, where the reply is printed. -/
theorem back_plain {code a b c : Int} {t : List ByteArray} (h : right code a b c t = 0) (hd : none3 a b c = true → ∀ s ∈ t, ∀ x r, s.data.toList = x :: r → dgt x = false) (r : List ByteArray) :
    (1 ≤ t.length ∧ t.length ≤ 32) ∧ (200 ≤ code ∧ code ≤ 599) ∧ ∃ ll, prn code a b c t = ll ∧ ll.length = t.length ∧ prs 0 0 (ll ++ r) = (0, t.length, code) ∧ body code (((ll ++ r).take t.length).map say) = ((a, b, c), t) ∧ prs 0 0 (ll.take (t.length - 1)) = (12, 0, 0) ∧ ∀ s ∈ ll, s.size ≤ 1000000 := by
  have hO := ok_of_right h
  exact ⟨⟨hO.len0, hO.len1⟩, ⟨hO.code0, hO.code1⟩, _, rfl, prn_length _ _ _ _ _, prs_all hO r, back_body hO hd r, prs_less hO, prn_size hO⟩
theorem back_plain0 {code a b c : Int} {t : List ByteArray} (h : right code a b c t = 0) (r : List ByteArray) :
    (1 ≤ t.length ∧ t.length ≤ 32) ∧ (200 ≤ code ∧ code ≤ 599) ∧ ∃ ll, prn code a b c t = ll ∧ ll.length = t.length ∧ prs 0 0 (ll ++ r) = (0, t.length, code) ∧ True ∧ prs 0 0 (ll.take (t.length - 1)) = (12, 0, 0) ∧ ∀ s ∈ ll, s.size ≤ 1000000 := by
  have hO := ok_of_right h
  exact ⟨⟨hO.len0, hO.len1⟩, ⟨hO.code0, hO.code1⟩, _, rfl, prn_length _ _ _ _ _, prs_all hO r, trivial, prs_less hO, prn_size hO⟩
/-- ReplyWrong's plain law: the four lines. -/
theorem wrong_plain {code a b c : Int} {t : List ByteArray} (h : right code a b c t = 0) :
    (1 ≤ t.length ∧ t.length ≤ 32) ∧ ∃ ll, prn code a b c t = ll ∧ ll.length = t.length ∧ (∀ s ∈ ll, 4 ≤ s.size ∧ s.size ≤ 1000000) ∧
      ∀ k, (hk : k < ll.length) → ∀ s, s = (⟨#[]⟩ : ByteArray) ∨ s = (⟨#[50]⟩ : ByteArray) ∨ s = (⟨#[57, 57, 57, 32, 120]⟩ : ByteArray) ∨ s.data.toList = ll[k].data.toList.take 3 ++ [120] → prs 0 0 (ll.set k s) = (2, 0, 0) := by
  have hO := ok_of_right h
  refine ⟨⟨hO.len0, hO.len1⟩, _, rfl, prn_length _ _ _ _ _, fun s hs => ⟨prn_size4 hO s hs, prn_size hO s hs⟩, fun k hk s hs => ?_⟩
  refine wrong_prs hO k (by rw [prn_length] at hk; exact hk) s fun i cd _ => ?_
  rcases hs with rfl | rfl | rfl | hs
  · exact wrong_0 i cd
  · exact wrong_1 i cd
  · exact wrong_2 i cd
  · rw [prn_get] at hs
    exact wrong_3 hO.code0 hO.code1 _ _ _ i cd s hs
end Rp
