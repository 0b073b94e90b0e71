/-
  Plain laws of the words: what is parsed of any text may be printed; and so of a recipient's.
-/
import Derived.Test.YtfffdbjfhdkheaaGreatDoorQPmLaw3
import Derived.Test.YtfffdbjfhdkheaaGreatDoorQPmPrR
set_option linter.unusedVariables false
set_option linter.unusedSimpArgs false
namespace Go.Proofs.YtfffdbjfhdkheaaGreatDoor
open Go.RowKit Go.Shelf
set_option maxRecDepth 100000
namespace Pm
/-- A word that went well. -/
theorem step_zero {σ : Type} {ks : List (Key σ)} {x : ByteArray} {seen : List ByteArray} {s : σ} (h : (wordStep ks x seen s).2 = 0) :
    ∃ K, K ∈ ks ∧ findK ks (upB (cutL x 61)) = some K ∧ x.data.toList ≠ [] ∧ seen.any (fun y => decide (y = upB (cutL x 61))) = false ∧ (K.step (cutR x 61) s).2 = 0 ∧ wordStep ks x seen s = ((seen ++ [upB (cutL x 61)], (K.step (cutR x 61) s).1), 0) := by
  unfold wordStep at h
  by_cases hx : x.data.toList = []
  · rw [if_pos hx] at h; simp at h
  · rw [if_neg hx] at h
    cases hf : findK ks (upB (cutL x 61)) with
    | none => rw [hf] at h; simp at h
    | some K =>
      rw [hf] at h
      simp only at h
      cases hs : seen.any (fun y => decide (y = upB (cutL x 61))) with
      | true => rw [hs, if_pos rfl] at h; simp at h
      | false =>
        rw [hs, if_neg (by simp)] at h
        refine ⟨K, List.mem_of_find?_eq_some hf, rfl, hx, rfl, h, ?_⟩
        unfold wordStep
        rw [if_neg hx, hf]
        simp only
        rw [hs, if_neg (by simp), ← h]
theorem run_inv {σ : Type} {P : σ → Prop} {ks : List (Key σ)} (hK : ∀ K ∈ ks, ∀ v s, P s → (K.step v s).2 = 0 → P (K.step v s).1) : ∀ (ws seen : List ByteArray) (s : σ), P s → (wordsRun ks ws seen s).2 = 0 → P (wordsRun ks ws seen s).1
  | [], _, s, h, _ => h
  | x :: xs, seen, s, h, h0 => by
    unfold wordsRun at h0 ⊢
    by_cases hs : (wordStep ks x seen s).2 = 0
    · rw [if_pos hs] at h0 ⊢
      refine run_inv hK xs _ _ ?_ h0
      obtain ⟨K, h1, h2, h3, h4, h5, h6⟩ := step_zero hs
      rw [h6]
      exact hK K h1 _ _ h h5
    · rw [if_neg hs] at h0
      exact absurd h0 hs
theorem all_inv {σ : Type} {P : σ → Prop} {ks : List (Key σ)} (hK : ∀ K ∈ ks, ∀ v s, P s → (K.step v s).2 = 0 → P (K.step v s).1) (t : ByteArray) (s : σ) (h : P s) (h0 : (wordsAll ks t s).2 = 0) : P (wordsAll ks t s).1 := by
  unfold wordsAll at h0 ⊢
  split
  · exact h
  · rename_i ht
    rw [if_neg ht] at h0
    exact run_inv hK _ _ _ h h0
theorem within_zero {n e lo hi : Int} (h : (within n e lo hi).2 = 0) : e = 0 ∧ lo ≤ n ∧ n ≤ hi ∧ (within n e lo hi).1 = n := by
  unfold within at h ⊢
  split at h
  · rename_i he; exact absurd h he
  · rename_i he
    split at h
    · simp at h
    · rename_i hr
      rw [if_neg he, if_neg hr]
      exact ⟨by omega, by omega, by omega, rfl⟩
theorem name_zero {s : ByteArray} {l : List ByteArray} (h : (name s l).2 = 0) : (name s l).1 ∈ l := by
  unfold name at h ⊢
  split at h
  · rename_i hc; rw [if_pos hc]; exact (contains_iff _ _).1 hc
  · simp at h
theorem decoded_zero {l : List UInt8} {n : Int} (h : (decoded l n).2 = 0) : ((decoded l n).1.length : Int) ≤ n ∧ (decoded l n).1 ≠ [] := by
  unfold decoded at h ⊢
  split
  · rename_i hd; rw [hd] at h; simp at h
  · rename_i hd; rw [hd] at h; simp at h
  · rename_i c r hd
    rw [hd] at h
    simp only at h
    split at h
    · simp at h
    · rename_i hr
      rw [if_neg hr]
      exact ⟨by show ((c :: r).length : Int) ≤ n; omega, by simp⟩
theorem least_eq (m : ByteArray) : byLeast m = least m := rfl
theorem zero_ok : MOk Ml.zero := ⟨.inl ⟨rfl, rfl⟩, .inl ⟨rfl, rfl⟩, .inl ⟨rfl, rfl⟩, .inl ⟨rfl, rfl, rfl⟩, .inl ⟨rfl, rfl⟩, .inl rfl, .inl rfl, by decide⟩
theorem steps_ok : ∀ K ∈ mailPlain, ∀ v s, MOk s → (K.step v s).2 = 0 → MOk (K.step v s).1 := by
  intro K hK v m h h0
  simp only [mailPlain, List.mem_cons, List.not_mem_nil, or_false] at hK
  rcases hK with rfl | rfl | rfl | rfl | rfl | rfl | rfl | rfl
  · have hr := num_range v.data.toList
    exact ⟨.inr ⟨rfl, hr.1, hr.2⟩, h.f, h.u, h.b, h.p, h.body, h.ret, h.env⟩
  · have hn := name_zero (show (name v [n7, n8]).2 = 0 from h0)
    exact ⟨h.s, h.f, h.u, h.b, h.p, .inr hn, h.ret, h.env⟩
  · have hn := name_zero (show (name v [nFull, nHdrs]).2 = 0 from h0)
    exact ⟨h.s, h.f, h.u, h.b, h.p, h.body, .inr hn, h.env⟩
  · have hn := decoded_zero (show (decoded v.data.toList 100).2 = 0 from h0)
    refine ⟨h.s, h.f, h.u, h.b, h.p, h.body, h.ret, ?_⟩
    show (decoded v.data.toList 100).1.toArray.size ≤ 100
    rw [List.size_toArray]
    omega
  · have hw := within_zero (show (within (Txt.number v.data.toList).1 (Txt.number v.data.toList).2 1 1048576).2 = 0 from h0)
    refine ⟨h.s, .inr ⟨rfl, ?_⟩, h.u, h.b, h.p, h.body, h.ret, h.env⟩
    show 1 ≤ (forN v).1 ∧ (forN v).1 ≤ 1048576
    unfold forN
    rw [hw.2.2.2]
    exact ⟨hw.2.1, hw.2.2.1⟩
  · have h1 : (stUntil v m).2 = 0 := h0
    show MOk (stUntil v m).1
    unfold stUntil at h1 ⊢
    have hp := DtCal.parse_range (s := Txt.upper v.data.toList)
    generalize DtCal.parse (Txt.upper v.data.toList) = q at h1 hp
    simp only at h1
    have hp := hp h1
    exact ⟨h.s, h.f, .inr ⟨rfl, hp.1, by simp only; omega⟩, h.b, h.p, h.body, h.ret, h.env⟩
  · show MOk (stBy v m).1
    have h1 : (stBy v m).2 = 0 := h0
    unfold stBy at h1 ⊢
    split at h1
    · rename_i hm; exact absurd h1 hm
    · rename_i hm
      rw [if_neg hm]
      have hm0 : (byMode v).2 = 0 := by simpa using hm
      have hn := name_zero (show (name ⟨(Lib.cut v.data.toList [59]).2.1.toArray⟩ modes).2 = 0 from hm0)
      have hw := within_zero (show (within (signed (Lib.cut v.data.toList [59]).1).1 (signed (Lib.cut v.data.toList [59]).1).2 (byLeast (byMode v).1) 999999999).2 = 0 from h1)
      refine ⟨h.s, h.f, h.u, .inr ⟨rfl, hn, ?_⟩, h.p, h.body, h.ret, h.env⟩
      show least (byMode v).1 ≤ (byN v).1 ∧ (byN v).1 ≤ 999999999
      unfold byN
      rw [hw.2.2.2]
      exact ⟨hw.2.1, hw.2.2.1⟩
  · have hw := within_zero (show (within (signed v.data.toList).1 (signed v.data.toList).2 (-9) 9).2 = 0 from h0)
    refine ⟨h.s, h.f, h.u, h.b, .inr ⟨rfl, ?_⟩, h.body, h.ret, h.env⟩
    show -9 ≤ (priN v).1 ∧ (priN v).1 ≤ 9
    unfold priN
    rw [hw.2.2.2]
    exact ⟨hw.2.1, hw.2.2.1⟩
theorem all_ok (t : ByteArray) (h0 : (wordsAll mailPlain t Ml.zero).2 = 0) : MOk (wordsAll mailPlain t Ml.zero).1 := all_inv steps_ok t Ml.zero zero_ok h0
/-- What is parsed of any text may be printed. -/
theorem parse_right (t : ByteArray) (h : (parseMail t).2 = 0) : (parseMail t).1.right = 0 := by
  unfold parseMail at h ⊢
  split at h
  · rename_i hn; exact absurd h hn
  · rename_i hn
    split at h
    · simp at h
    · rename_i hb
      rw [if_neg hn, if_neg hb]
      exact right_of _ (all_ok t (by simpa using hn)) hb
end Pm
end Go.Proofs.YtfffdbjfhdkheaaGreatDoor
