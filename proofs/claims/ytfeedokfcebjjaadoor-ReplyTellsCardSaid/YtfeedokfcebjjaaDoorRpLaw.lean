/-
  The plain side of reply's laws: a reply's lines, parsed.
-/
import Derived.Test.YtfeedokfcebjjaaDoorRpLine
import Derived.Test.YtfeedokfcebjjaaDoorRpPrint
set_option linter.unusedVariables false
set_option linter.unusedSimpArgs false
namespace Rp
open Go.Lib Go.Proofs.YtfeedokfcebjjaaDoor.Rp
def chk3 (l : List UInt8) (c : Int) : Bool := match l with
  | [x, y, z] => (dgt x && dgt y && dgt z) && decide (val3 x y z = c)
  | _ => false
theorem itoa3 (c : Int) (h0 : 200 ≤ c) (h1 : c ≤ 599) : ∃ x y z, itoa c = [x, y, z] ∧ (dgt x && dgt y && dgt z) = true ∧ val3 x y z = c := by
  have h : ∀ i : Fin 400, chk3 (itoa (200 + (i.val : Int))) (200 + (i.val : Int)) = true := by decide +kernel
  have h2 := h ⟨(c - 200).toNat, by omega⟩
  have e : (200 : Int) + ((c - 200).toNat : Int) = c := by omega
  simp only at h2
  rw [e] at h2
  unfold chk3 at h2
  split at h2
  · rename_i x y z he
    simp only [Bool.and_eq_true, decide_eq_true_eq] at h2
    exact ⟨x, y, z, he, by simp [h2.1.1.1, h2.1.1.2, h2.1.2], h2.2⟩
  · cases h2
theorem itoa_vis (c : Int) (h0 : 0 ≤ c) (h1 : c ≤ 999) : (itoa c).all vis = true := by
  have h : ∀ i : Fin 1000, (itoa (i.val : Int)).all vis = true := by decide +kernel
  have h2 := h ⟨c.toNat, by omega⟩
  simp only at h2
  rwa [show ((c.toNat : Nat) : Int) = c by omega] at h2
/-- What a right reply is. -/
structure Ok (code a b c : Int) (t : List ByteArray) : Prop where
  cls : cls code ≠ 0
  code0 : 200 ≤ code
  code1 : code ≤ 599
  fits : fits code a b c = true
  len0 : 1 ≤ t.length
  len1 : t.length ≤ 32
  shown : ∀ s ∈ t, shown s.data.toList = true
  small : ∀ s ∈ t, 4 + ((enh a b c).length : Int) + s.size ≤ 510
theorem ok_of_right {code a b c : Int} {t : List ByteArray} (h : right code a b c t = 0) : Ok code a b c t := by
  unfold right at h
  split at h
  · cases h
  · rename_i hn
    have hc : Rp.cls code ≠ 0 := fun q => hn (.inl q)
    have hf : Rp.fits code a b c = true := by cases hf : Rp.fits code a b c with | true => rfl | false => exact absurd (.inr hf) hn
    unfold rest at h
    split at h
    · cases h
    · rename_i hs
      split at h
      · cases h
      · rename_i hb
        have hs' : t.all (fun s => Rp.shown s.data.toList) = true := by simpa using hs
        have hb' : (decide (t.length < 1 ∨ 32 < t.length) || t.any (big a b c)) = false := by simpa using hb
        rw [Bool.or_eq_false_iff] at hb'
        have hl := of_decide_eq_false hb'.1
        have hr := (cls_01 code).resolve_left hc
        refine ⟨hc, hr.2.2.1, hr.2.2.2, hf, by omega, by omega, fun s hs2 => List.all_eq_true.1 hs' s hs2, fun s hs2 => ?_⟩
        have := List.any_eq_false.1 hb'.2 s hs2
        unfold big at this
        have := of_decide_eq_false (by simpa using this : decide (510 < 4 + ((enh a b c).length : Int) + s.size) = false)
        omega
/-- A line's bytes. -/
theorem line_list (code a b c : Int) (n k : Nat) (s : ByteArray) : (line code a b c n k s).data.toList = itoa code ++ [if k + 1 = n then 32 else 45] ++ enh a b c ++ s.data.toList := by simp [line]
theorem enh_vis {code a b c : Int} (h : fits code a b c = true) : (enh a b c).all vis = true := by
  unfold enh
  split
  · rfl
  · rcases fits_iff.1 h with h0 | ⟨h1, h2, h3, h4, h5, h6⟩
    · rename_i hn; exact absurd (none3_iff.2 h0) hn
    · have ha : 0 ≤ a ∧ a ≤ 999 := by rcases cls_01 code with q | q <;> omega
      simp only [List.all_append, itoa_vis a ha.1 ha.2, itoa_vis b h3 h4, itoa_vis c h5 h6]
      rfl
theorem dgt_vis {x : UInt8} (h : dgt x = true) : vis x = true := by
  simp only [dgt, vis, decide_eq_true_eq] at *
  omega
theorem line_code {code a b c : Int} (h0 : 200 ≤ code) (h1 : code ≤ 599) (n k : Nat) (s : ByteArray) : Rp.code (line code a b c n k s).data.toList = code := by
  obtain ⟨x, y, z, he, hd, hv⟩ := itoa3 code h0 h1
  rw [line_list, he]
  show (if (dgt x && dgt y && dgt z) = true then val3 x y z else 0) = code
  rw [if_pos hd, hv]
theorem line_last {code a b c : Int} (h0 : 200 ≤ code) (h1 : code ≤ 599) (n k : Nat) (s : ByteArray) : last (line code a b c n k s).data.toList = decide (k + 1 = n) := by
  obtain ⟨x, y, z, he, hd, hv⟩ := itoa3 code h0 h1
  rw [line_list, he]
  show ((if k + 1 = n then (32 : UInt8) else 45) == 32) = _
  by_cases hk : k + 1 = n
  · rw [if_pos hk, decide_eq_true hk]; rfl
  · rw [if_neg hk, decide_eq_false hk]; rfl
theorem line_sgn {code a b c : Int} (h0 : 200 ≤ code) (h1 : code ≤ 599) (n k : Nat) (s : ByteArray) : sgn (line code a b c n k s).data.toList = false := by
  obtain ⟨x, y, z, he, hd, hv⟩ := itoa3 code h0 h1
  rw [line_list, he]
  show (!((if k + 1 = n then (32 : UInt8) else 45) == 32) && !((if k + 1 = n then (32 : UInt8) else 45) == 45)) = _
  by_cases hk : k + 1 = n
  · rw [if_pos hk]; rfl
  · rw [if_neg hk]; rfl
theorem line_shown {code a b c : Int} (h0 : 200 ≤ code) (h1 : code ≤ 599) (hf : fits code a b c = true) (n k : Nat) (s : ByteArray) (hs : shown s.data.toList = true) : shown (line code a b c n k s).data.toList = true := by
  rw [line_list]
  unfold shown at *
  obtain ⟨x, y, z, he, hd, hv⟩ := itoa3 code h0 h1
  simp only [Bool.and_eq_true] at hd
  rw [List.all_append, List.all_append, List.all_append, he, enh_vis hf, hs]
  simp only [List.all_cons, List.all_nil, dgt_vis hd.1.1, dgt_vis hd.1.2, dgt_vis hd.2]
  by_cases hk : k + 1 = n
  · rw [if_pos hk]; rfl
  · rw [if_neg hk]; rfl
theorem line_len {code a b c : Int} (h0 : 200 ≤ code) (h1 : code ≤ 599) (n k : Nat) (s : ByteArray) : ((line code a b c n k s).data.toList.length : Int) = 4 + ((enh a b c).length : Int) + s.size := by
  obtain ⟨x, y, z, he, hd, hv⟩ := itoa3 code h0 h1
  have hl : s.data.toList.length = s.size := by simp
  rw [line_list, he]
  simp only [List.length_append, List.length_cons, List.length_nil, hl]
  omega
theorem say_line {code a b c : Int} (h0 : 200 ≤ code) (h1 : code ≤ 599) (n k : Nat) (s : ByteArray) : say (line code a b c n k s) = ⟨(enh a b c ++ s.data.toList).toArray⟩ := by
  obtain ⟨x, y, z, he, hd, hv⟩ := itoa3 code h0 h1
  unfold say
  rw [line_list, he]
  rfl
/-- A reply's lines are right, in their places. -/
theorem line_bad {code a b c : Int} {t : List ByteArray} (h : Ok code a b c t) (i k : Nat) (hi : i < 32) (cd : Int) (hcd : 0 < i → cd = code) (s : ByteArray) (hs : s ∈ t) : bad i cd (line code a b c t.length k s).data.toList = 0 := by
  refine bad_0 (by rw [line_code h.code0 h.code1]; exact h.cls) (fun hp => by rw [line_code h.code0 h.code1, hcd hp]) (line_sgn h.code0 h.code1 _ _ _) (line_shown h.code0 h.code1 h.fits _ _ _ (h.shown s hs)) ?_ hi
  have := line_len (a := a) (b := b) (c := c) h.code0 h.code1 t.length k s
  have := h.small s hs
  omega
/-- The first lines of a reply, ahead of whatever lines: they are passed, if none is the last one. -/
theorem prs_pass {code a b c : Int} {t : List ByteArray} (h : Ok code a b c t) (r : List ByteArray) : ∀ (j k : Nat) (cd : Int), k + j < t.length → (0 < k → cd = code) →
    prs k cd (((prn code a b c t).drop k).take j ++ r) = if j = 0 then prs k cd r else prs (k + j) code r
  | 0, k, cd, _, _ => by simp
  | j + 1, k, cd, hk, hcd => by
    have hkl : k < (prn code a b c t).length := by rw [prn_length]; omega
    rw [List.drop_eq_getElem_cons hkl, List.take_succ_cons, List.cons_append, if_neg (by omega), prn_get]
    rw [prs_more (line_bad h k k (by have := h.len1; omega) cd hcd _ (List.getElem_mem _)) (by rw [line_last h.code0 h.code1]; exact decide_eq_false (by omega)), line_code h.code0 h.code1, prs_pass h r j (k + 1) code (by omega) (fun _ => rfl)]
    by_cases hj : j = 0
    · subst hj; simp
    · rw [if_neg hj]; congr 1; omega
/-- All of a reply's lines, with whatever behind them. -/
theorem prs_all {code a b c : Int} {t : List ByteArray} (h : Ok code a b c t) (r : List ByteArray) : prs 0 0 (prn code a b c t ++ r) = (0, t.length, code) := by
  have hl := h.len0
  have hn : t.length - 1 < (prn code a b c t).length := by rw [prn_length]; omega
  have e : prn code a b c t ++ r = (prn code a b c t).take (t.length - 1) ++ ((prn code a b c t)[t.length - 1] :: r) := by
    conv => lhs; rw [← List.take_append_drop (t.length - 1) (prn code a b c t)]
    rw [List.append_assoc, List.drop_eq_getElem_cons hn, List.drop_of_length_le (by rw [prn_length]; omega)]
    rfl
  have hp := prs_pass h ((prn code a b c t)[t.length - 1] :: r) (t.length - 1) 0 0 (by omega) (fun q => absurd q (by omega))
  rw [List.drop_zero] at hp
  rw [e, hp, prn_get]
  have hlast : ∀ (i : Nat) (cd : Int), i = t.length - 1 → (0 < i → cd = code) → prs i cd (line code a b c t.length (t.length - 1) (t[t.length - 1]) :: r) = (0, t.length, code) := fun i cd hi hcd => by
    rw [prs_last (line_bad h i _ (by have := h.len1; omega) cd hcd _ (List.getElem_mem _)) (by rw [line_last h.code0 h.code1]; exact decide_eq_true (by omega)), line_code h.code0 h.code1]
    congr 1
    congr 1
    omega
  by_cases h1 : t.length - 1 = 0
  · rw [if_pos h1]
    exact hlast 0 0 h1.symm (fun q => absurd q (by omega))
  · rw [if_neg h1, Nat.zero_add]
    exact hlast _ code rfl (fun _ => rfl)
/-- All but the last: more is to come. -/
theorem prs_less {code a b c : Int} {t : List ByteArray} (h : Ok code a b c t) : prs 0 0 ((prn code a b c t).take (t.length - 1)) = (12, 0, 0) := by
  have hl := h.len0
  have hp := prs_pass h [] (t.length - 1) 0 0 (by omega) (fun q => absurd q (by omega))
  rw [List.drop_zero, List.append_nil] at hp
  rw [hp]
  split <;> rfl
end Rp
