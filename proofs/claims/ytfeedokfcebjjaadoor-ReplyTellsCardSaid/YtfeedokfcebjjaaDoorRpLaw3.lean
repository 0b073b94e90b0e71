/-
  The plain side of reply's laws: back, again, wrong.
-/
import Derived.Test.YtfeedokfcebjjaaDoorRpLaw2
set_option linter.unusedVariables false
set_option linter.unusedSimpArgs false
namespace Rp
open Go.Lib Go.Proofs.YtfeedokfcebjjaaDoor.Rp
theorem back_body {code a b c : Int} {t : List ByteArray} (h : Ok code a b c t) (hd : none3 a b c = true → ∀ s ∈ t, ∀ x r, s.data.toList = x :: r → dgt x = false) (r : List ByteArray) :
    body code (((prn code a b c t ++ r).take t.length).map say) = ((a, b, c), t) := by
  have e : (prn code a b c t ++ r).take t.length = prn code a b c t := by
    rw [List.take_append_of_le_length (by rw [prn_length]; omega), List.take_of_length_le (by rw [prn_length]; omega)]
  rw [e, says h.code0 h.code1]
  cases hn : none3 a b c with
  | false => exact body_some h.fits hn h.len0
  | true =>
    obtain ⟨rfl, rfl, rfl⟩ := none3_iff.1 hn
    have hm : t.map (fun s => (⟨(enh 0 0 0 ++ s.data.toList).toArray⟩ : ByteArray)) = t := by
      conv => rhs; rw [← List.map_id t]
      apply List.map_congr_left
      intro s _
      apply bytes_ext
      simp [enh, none3]
    rw [hm]
    exact body_none h.len0 (hd hn)
/-- What is known of lines that were read. -/
theorem prs_true : ∀ (l : List ByteArray) (i : Nat) (cd : Int) (n : Nat) (c : Int), prs i cd l = (0, n, c) → ∃ m, n = i + m ∧ 1 ≤ m ∧ m ≤ l.length ∧ n ≤ 32 ∧ cls c ≠ 0 ∧ ∀ s ∈ l.take m, shown s.data.toList = true
  | [], i, cd, n, c, h => by simp [prs] at h
  | s :: r, i, cd, n, c, h => by
    rw [prs] at h
    by_cases hb : bad i cd s.data.toList = 0
    · rw [if_neg (by simpa using hb)] at h
      have hb' := hb
      unfold bad at hb'
      split at hb'
      · cases hb'
      · rename_i hq
        split at hb'
        · cases hb'
        · rename_i hq2
          have hsh : shown s.data.toList = true := by cases hs : shown s.data.toList with | true => rfl | false => exact absurd (.inr (.inr (.inr hs))) hq
          have hcl : cls (code s.data.toList) ≠ 0 := fun q => hq (.inl q)
          split at h
          · simp only [Prod.mk.injEq, true_and] at h
            obtain ⟨rfl, rfl⟩ := h
            exact ⟨1, rfl, by omega, by simp, by omega, hcl, fun q hq3 => by simp at hq3; subst hq3; exact hsh⟩
          · obtain ⟨m, h1, h2, h3, h4, h5, h6⟩ := prs_true r (i + 1) _ n c h
            refine ⟨m + 1, by omega, by omega, by simp; omega, h4, h5, fun q hq3 => ?_⟩
            rw [List.take_succ_cons, List.mem_cons] at hq3
            rcases hq3 with rfl | hq3
            · exact hsh
            · exact h6 q hq3
    · rw [if_pos hb] at h
      simp only [Prod.mk.injEq] at h
      exact absurd h.1 hb
theorem shown_drop {l : List UInt8} (n : Nat) (h : shown l = true) : shown (l.drop n) = true := by
  unfold shown at *
  rw [List.all_eq_true] at *
  exact fun x hx => h x (List.mem_of_mem_drop hx)
theorem say_shown {s : ByteArray} (h : shown s.data.toList = true) : shown (say s).data.toList = true := by
  rw [show (say s).data.toList = s.data.toList.drop 4 by simp [say]]
  exact shown_drop 4 h
/-- What a reply is that was read: it may be printed, or is too long. -/
theorem again_right {l : List ByteArray} {n : Nat} {c : Int} (h : prs 0 0 l = (0, n, c)) :
    (body c ((l.take n).map say)).2.length = n ∧ (right c (body c ((l.take n).map say)).1.1 (body c ((l.take n).map say)).1.2.1 (body c ((l.take n).map say)).1.2.2 (body c ((l.take n).map say)).2 = 0 ∨
      right c (body c ((l.take n).map say)).1.1 (body c ((l.take n).map say)).1.2.1 (body c ((l.take n).map say)).1.2.2 (body c ((l.take n).map say)).2 = 3) ∧
    fits c (body c ((l.take n).map say)).1.1 (body c ((l.take n).map say)).1.2.1 (body c ((l.take n).map say)).1.2.2 = true := by
  obtain ⟨m, h1, h2, h3, h4, h5, h6⟩ := prs_true l 0 0 n c h
  obtain rfl : n = m := by omega
  have hlen : ((l.take n).map say).length = n := by simp; omega
  have hsh : ∀ s ∈ (l.take n).map say, shown s.data.toList = true := fun s hs => by
    obtain ⟨q, hq, rfl⟩ := List.mem_map.1 hs
    exact say_shown (h6 q hq)
  generalize (l.take n).map say = t at hlen hsh
  have key : ∀ (f : Int × Int × Int) (xs : List ByteArray), fits c f.1 f.2.1 f.2.2 = true → (∀ s ∈ xs, shown s.data.toList = true) → right c f.1 f.2.1 f.2.2 xs = 0 ∨ right c f.1 f.2.1 f.2.2 xs = 3 := fun f xs hf hx => by
    unfold right
    rw [if_neg (by rintro (q | q); exact h5 q; rw [hf] at q; cases q)]
    unfold rest
    rw [if_neg (by rw [show xs.all (fun s => shown s.data.toList) = true from List.all_eq_true.2 hx]; simp)]
    split
    · exact .inr rfl
    · exact .inl rfl
  unfold body
  by_cases hall : t.all (good c (fst3 c t)) = true
  · rw [if_pos hall]
    have hne : 1 ≤ t.length := by omega
    have hg : ∀ s ∈ t, good c (fst3 c t) s = true := List.all_eq_true.1 hall
    have hf : fits c (fst3 c t).1 (fst3 c t).2.1 (fst3 c t).2.2 = true := by
      obtain ⟨s, hs⟩ : ∃ s, s ∈ t := by cases t with | nil => simp at hne | cons s r => exact ⟨s, List.mem_cons_self ..⟩
      exact (rd_true (good_iff (hg s hs))).1
    refine ⟨by simp [hlen], key _ _ hf fun s hs => ?_, hf⟩
    obtain ⟨q, hq, rfl⟩ := List.mem_map.1 hs
    have := (rd_true (good_iff (hg q hq))).2.2
    have hq2 := hsh q hq
    rw [this] at hq2
    unfold shown at *
    rw [List.all_append, Bool.and_eq_true] at hq2
    exact hq2.2
  · rw [if_neg hall]
    exact ⟨hlen, key (0, 0, 0) t (fits_iff.2 (.inl ⟨rfl, rfl, rfl⟩)) hsh, fits_iff.2 (.inl ⟨rfl, rfl, rfl⟩)⟩
/-- .. and parsed again to the same. -/
theorem again_body {c : Int} {t : List ByteArray} (hO : Ok c (body c t).1.1 (body c t).1.2.1 (body c t).1.2.2 (body c t).2) : body c ((prn c (body c t).1.1 (body c t).1.2.1 (body c t).1.2.2 (body c t).2).map say) = body c t := by
  rw [says hO.code0 hO.code1]
  cases hall : t.all (good c (fst3 c t)) with
  | true =>
    have hb : body c t = (fst3 c t, t.map (behind c)) := by unfold body; rw [if_pos hall]
    rw [hb] at hO ⊢
    have hne : 1 ≤ t.length := by have := hO.len0; simpa using this
    have hn : none3 (fst3 c t).1 (fst3 c t).2.1 (fst3 c t).2.2 = false := by
      obtain ⟨s, hs⟩ : ∃ s, s ∈ t := by cases t with | nil => simp at hne | cons s r => exact ⟨s, List.mem_cons_self ..⟩
      exact (rd_true (good_iff (List.all_eq_true.1 hall s hs))).2.1
    exact body_some hO.fits hn hO.len0
  | false =>
    have hb : body c t = ((0, 0, 0), t) := by unfold body; rw [if_neg (by rw [hall]; simp)]
    have hm : t.map (fun s => (⟨(enh 0 0 0 ++ s.data.toList).toArray⟩ : ByteArray)) = t := by
      conv => rhs; rw [← List.map_id t]
      apply List.map_congr_left
      intro s _
      apply bytes_ext
      simp [enh, none3]
    rw [hb]
    simp only
    rw [hm, hb]
/-- One line that isn't of the reply. -/
theorem wrong_prs {code a b c : Int} {t : List ByteArray} (h : Ok code a b c t) (k : Nat) (hk : k < t.length) (s : ByteArray) (hs : ∀ i cd, (0 < i → cd = code) → bad i cd s.data.toList = 2) :
    prs 0 0 ((prn code a b c t).set k s) = (2, 0, 0) := by
  have hkl : k < (prn code a b c t).length := by rw [prn_length]; omega
  have e : (prn code a b c t).set k s = (prn code a b c t).take k ++ s :: (prn code a b c t).drop (k + 1) := by
    rw [List.set_eq_take_append_cons_drop, if_pos hkl]
  have hp := prs_pass h (s :: (prn code a b c t).drop (k + 1)) k 0 0 (by omega) (fun q => absurd q (by omega))
  rw [List.drop_zero] at hp
  rw [e, hp]
  split
  · exact prs_bad (hs 0 0 (fun q => absurd q (by omega))) (by decide)
  · exact prs_bad (hs _ _ (fun _ => rfl)) (by decide)
theorem wrong_0 (i : Nat) (cd : Int) : bad i cd (⟨#[]⟩ : ByteArray).data.toList = 2 := bad_2 (.inl rfl)
theorem wrong_1 (i : Nat) (cd : Int) : bad i cd (⟨#[50]⟩ : ByteArray).data.toList = 2 := bad_2 (.inl rfl)
theorem wrong_2 (i : Nat) (cd : Int) : bad i cd (⟨#[57, 57, 57, 32, 120]⟩ : ByteArray).data.toList = 2 := bad_2 (.inl (by decide +kernel))
theorem wrong_3 {code a b c : Int} (h0 : 200 ≤ code) (h1 : code ≤ 599) (n k : Nat) (s : ByteArray) (i : Nat) (cd : Int) (q : ByteArray) (hq : q.data.toList = (line code a b c n k s).data.toList.take 3 ++ [120]) : bad i cd q.data.toList = 2 := by
  refine bad_2 (.inr (.inr (.inl ?_)))
  obtain ⟨x, y, z, he, hd, hv⟩ := itoa3 code h0 h1
  rw [hq, line_list, he]
  rfl
end Rp
