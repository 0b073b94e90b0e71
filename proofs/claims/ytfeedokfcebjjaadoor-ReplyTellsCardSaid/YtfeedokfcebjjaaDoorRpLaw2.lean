/-
  The plain side of reply's laws: enhanced codes at the front of texts; bodies.
-/
import Derived.Test.YtfeedokfcebjjaaDoorRpLaw
set_option linter.unusedVariables false
set_option linter.unusedSimpArgs false
namespace Rp
open Go.Lib Go.Proofs.YtfeedokfcebjjaaDoor.Rp
theorem itoa_dgt (c : Int) (h0 : 0 ≤ c) (h1 : c ≤ 999) : (itoa c).all dgt = true := by
  have h : ∀ i : Fin 1000, (itoa (i.val : Int)).all dgt = true := by decide +kernel
  have h2 := h ⟨c.toNat, by omega⟩
  simp only at h2
  rwa [show ((c.toNat : Nat) : Int) = c by omega] at h2
theorem canon_itoa (c : Int) (h0 : 0 ≤ c) (h1 : c ≤ 999) : canon (itoa c) = some c := by
  have h : ∀ i : Fin 1000, canon (itoa (i.val : Int)) = some (i.val : Int) := by decide +kernel
  have h2 := h ⟨c.toNat, by omega⟩
  simp only at h2
  rwa [show ((c.toNat : Nat) : Int) = c by omega] at h2
theorem dgt_not {l : List UInt8} (h : l.all dgt = true) {x : UInt8} (hx : dgt x = false) : x ∉ l := fun hm => by rw [List.all_eq_true.1 h x hm] at hx; cases hx
theorem enh_eq {a b c : Int} (h : none3 a b c = false) (s : List UInt8) : enh a b c ++ s = (itoa a ++ 46 :: (itoa b ++ 46 :: itoa c)) ++ 32 :: s := by
  unfold enh
  rw [if_neg (by rw [h]; simp)]
  simp
theorem rd_enh {code a b c : Int} (hf : fits code a b c = true) (hn : none3 a b c = false) (s : List UInt8) : rd code (enh a b c ++ s) = (a, b, c, s, true) := by
  rcases fits_iff.1 hf with h0 | ⟨h1, h2, h3, h4, h5, h6⟩
  · rw [none3_iff.2 h0] at hn; cases hn
  · have ha : 0 ≤ a ∧ a ≤ 999 := by rcases cls_01 code with q | q <;> omega
    have da := itoa_dgt a ha.1 ha.2
    have db := itoa_dgt b h3 h4
    have dc := itoa_dgt c h5 h6
    rw [enh_eq hn]
    have hno : (32 : UInt8) ∉ itoa a ++ 46 :: (itoa b ++ 46 :: itoa c) := by
      simp only [List.mem_append, List.mem_cons, not_or]
      exact ⟨dgt_not da rfl, by decide, dgt_not db rfl, by decide, dgt_not dc rfl⟩
    unfold rd
    rw [Tok.cut_at s hno]
    simp only
    rw [Tok.split_at _ (dgt_not da rfl), Tok.split_at _ (dgt_not db rfl), Tok.split_no (dgt_not dc rfl)]
    exact rdOf_good (canon_itoa a ha.1 ha.2) (canon_itoa b h3 h4) (canon_itoa c h5 h6) hn hf
theorem split3 {w p q r : List UInt8} (h : Tok.split 46 w = [p, q, r]) : w = p ++ 46 :: (q ++ 46 :: r) := by
  rcases Tok.mem_or 46 w with hn | ⟨p', r', rfl, hp⟩
  · rw [Tok.split_no hn] at h; cases h
  · rw [Tok.split_at _ hp] at h
    injection h with e1 h
    subst e1
    rcases Tok.mem_or 46 r' with hn | ⟨q', r2, rfl, hq⟩
    · rw [Tok.split_no hn] at h; cases h
    · rw [Tok.split_at _ hq] at h
      injection h with e2 h
      subst e2
      rcases Tok.mem_or 46 r2 with hn | ⟨q2, r3, rfl, hq2⟩
      · rw [Tok.split_no hn] at h
        injection h with e3 _
        subst e3; rfl
      · rw [Tok.split_at _ hq2] at h
        injection h with _ h
        exact absurd h (Tok.split_ne _ _)
/-- What is read stands at the front. -/
theorem rd_true {code a b c : Int} {s rest : List UInt8} (h : rd code s = (a, b, c, rest, true)) : fits code a b c = true ∧ none3 a b c = false ∧ s = enh a b c ++ rest := by
  unfold rd at h
  rcases hcut : Tok.cut 32 s with ⟨w, rest', ok⟩
  rw [hcut] at h
  simp only at h
  cases ok with
  | false =>
    unfold rd3 at h
    simp at h
  | true =>
    have hy := Tok.cut_yes (c := 32) (l := s) (by rw [hcut])
    rw [hcut] at hy
    simp only at hy
    unfold rd3 at h
    split at h
    · rename_i p q r hs
      unfold rdOf at h
      split at h
      · rename_i x y z hx hy2 hz
        split at h
        · simp at h
        · rename_i hn
          simp only [Prod.mk.injEq, and_true] at h
          obtain ⟨rfl, rfl, rfl, rfl⟩ := h
          have hn1 : none3 x y z = false := by cases hq : none3 x y z with | false => rfl | true => exact absurd (.inl hq) hn
          have hf : fits code x y z = true := by cases hq : fits code x y z with | true => rfl | false => exact absurd (.inr hq) hn
          refine ⟨hf, hn1, ?_⟩
          rw [enh_eq hn1, (canon_some hx).2, (canon_some hy2).2, (canon_some hz).2, ← split3 hs]
          exact hy.1
      · simp at h
    · simp at h
/-- What isn't read reads as nothing. -/
theorem rd_false {code : Int} {s : List UInt8} (h : (rd code s).2.2.2.2 = false) : rd code s = (0, 0, 0, [], false) := by
  unfold rd rd3 at *
  split at h
  · unfold rdOf at *
    split at h
    · split at h
      · rename_i hq; rw [if_pos hq]
      · simp at h
    · rfl
  · rfl
theorem good_iff {code : Int} {f : Int × Int × Int} {s : ByteArray} (h : good code f s = true) : rd code s.data.toList = (f.1, f.2.1, f.2.2, (behind code s).data.toList, true) := by
  unfold good at h
  simp only [Bool.and_eq_true, decide_eq_true_eq] at h
  obtain ⟨h1, h2, h3, h4⟩ := h
  rw [← h2, ← h3, ← h4, ← h1]
  simp [behind]
theorem good_of {code a b c : Int} {s : ByteArray} {r : List UInt8} (h : rd code s.data.toList = (a, b, c, r, true)) : good code (a, b, c) s = true := by
  unfold good; rw [h]; simp
/-- A text with an enhanced code in front begins with a digit. -/
theorem good_digit {code : Int} {f : Int × Int × Int} {s : ByteArray} (h : good code f s = true) : ∃ x r, s.data.toList = x :: r ∧ dgt x = true := by
  obtain ⟨hf, hn, hs⟩ := rd_true (good_iff h)
  rcases fits_iff.1 hf with h0 | ⟨h1, h2, h3, h4, h5, h6⟩
  · rw [none3_iff.2 h0] at hn; cases hn
  · have ha : 0 ≤ f.1 ∧ f.1 ≤ 999 := by rcases cls_01 code with q | q <;> omega
    rw [enh_eq hn] at hs
    have da := itoa_dgt f.1 ha.1 ha.2
    have hne : itoa f.1 ≠ [] := by
      have h : ∀ i : Fin 1000, itoa (i.val : Int) ≠ [] := by decide +kernel
      have h2 := h ⟨f.1.toNat, by omega⟩
      simp only at h2
      rwa [show ((f.1.toNat : Nat) : Int) = f.1 by omega] at h2
    cases hi : itoa f.1 with
    | nil => exact absurd hi hne
    | cons x r =>
      rw [hi] at hs da
      exact ⟨x, _, hs, by simp only [List.all_cons, Bool.and_eq_true] at da; exact da.1⟩
theorem bytes_ext {x y : ByteArray} (h : x.data.toList = y.data.toList) : x = y := ByteArray.ext (Array.toList_inj.1 h)
/-- The texts of a reply's lines. -/
theorem says {code a b c : Int} {t : List ByteArray} (h0 : 200 ≤ code) (h1 : code ≤ 599) : (prn code a b c t).map say = t.map (fun s => (⟨(enh a b c ++ s.data.toList).toArray⟩ : ByteArray)) := by
  apply List.ext_getElem
  · simp [prn_length]
  · intro i h2 h3
    simp only [List.getElem_map, prn_get]
    exact say_line h0 h1 _ _ _
/-- Texts with an enhanced code in front of each: it is taken off. -/
theorem body_some {code a b c : Int} {t : List ByteArray} (hf : fits code a b c = true) (hn : none3 a b c = false) (ht : 1 ≤ t.length) : body code (t.map (fun s => (⟨(enh a b c ++ s.data.toList).toArray⟩ : ByteArray))) = ((a, b, c), t) := by
  have hrd : ∀ s : ByteArray, rd code (⟨(enh a b c ++ s.data.toList).toArray⟩ : ByteArray).data.toList = (a, b, c, s.data.toList, true) := fun s => by
    rw [show (⟨(enh a b c ++ s.data.toList).toArray⟩ : ByteArray).data.toList = enh a b c ++ s.data.toList by simp]
    exact rd_enh hf hn _
  have hfst : fst3 code (t.map (fun s => (⟨(enh a b c ++ s.data.toList).toArray⟩ : ByteArray))) = (a, b, c) := by
    cases t with
    | nil => simp at ht
    | cons s r => simp only [List.map_cons, fst3]; rw [hrd]
  unfold body
  rw [hfst, if_pos]
  · congr 1
    rw [List.map_map]
    conv => rhs; rw [← List.map_id t]
    apply List.map_congr_left
    intro s _
    apply bytes_ext
    simp only [Function.comp, behind]
    rw [hrd]
    simp
  · rw [List.all_map, List.all_eq_true]
    intro s _
    exact good_of (hrd s)
/-- Texts of which none begins with a digit: as they are. -/
theorem body_none {code : Int} {t : List ByteArray} (ht : 1 ≤ t.length) (h : ∀ s ∈ t, ∀ x r, s.data.toList = x :: r → dgt x = false) : body code t = ((0, 0, 0), t) := by
  unfold body
  rw [if_neg]
  intro hall
  cases t with
  | nil => simp at ht
  | cons s r =>
    have hg := List.all_eq_true.1 hall s (List.mem_cons_self ..)
    obtain ⟨x, r', he, hd⟩ := good_digit hg
    rw [h s (List.mem_cons_self ..) x r' he] at hd
    cases hd
end Rp
