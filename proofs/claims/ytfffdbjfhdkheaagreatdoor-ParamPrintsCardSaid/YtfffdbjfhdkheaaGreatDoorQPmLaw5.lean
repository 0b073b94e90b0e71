/-
  Plain laws of the words: a recipient's.
-/
import Derived.Test.YtfffdbjfhdkheaaGreatDoorQPmLaw4
set_option linter.unusedVariables false
set_option linter.unusedSimpArgs false
namespace Txt
theorem up_up (c : UInt8) : up (up c) = up c := by
  by_cases h : 97 ≤ c.toNat ∧ c.toNat ≤ 122
  · have := up_low h
    exact up_not (by omega)
  · rw [up_not h, up_not h]
theorem upper_upper (l : List UInt8) : upper (upper l) = upper l := by
  unfold upper
  rw [List.map_map]
  congr 1
  funext c
  exact up_up c
theorem letter_up (c : UInt8) : letter (up c) = letter c := by
  unfold letter
  by_cases h : 97 ≤ c.toNat ∧ c.toNat ≤ 122
  · have := up_low h
    rw [this]
    rw [Bool.eq_iff_iff]
    simp only [decide_eq_true_eq]
    omega
  · rw [up_not h]
theorem all_letter_upper (l : List UInt8) : (upper l).all letter = l.all letter := by
  unfold upper
  rw [List.all_map]
  congr 1
  funext c
  exact letter_up c
end Txt
namespace Go.Proofs.YtfffdbjfhdkheaaGreatDoor
open Go.RowKit Go.Shelf
set_option maxRecDepth 100000
namespace Pm
def nts : List ByteArray := [⟨#[]⟩, ⟨#[78]⟩, ⟨#[83]⟩, ⟨#[70]⟩, ⟨#[68]⟩, ⟨#[83, 70]⟩, ⟨#[83, 68]⟩, ⟨#[70, 68]⟩, ⟨#[83, 70, 68]⟩]
/-- What rightRcpt asks. -/
structure ROk (r : Rc) : Prop where
  nt : r.nt ∈ nts
  ko : (r.kd = ⟨#[]⟩ ∧ r.oc = ⟨#[]⟩) ∨ (r.kd ≠ ⟨#[]⟩ ∧ r.oc ≠ ⟨#[]⟩ ∧ typed r.kd.data.toList = true ∧ upB r.kd = r.kd ∧ r.oc.size ≤ 256)
def Rc.right (r : Rc) : Int := rightRcpt r.nt r.kd r.oc
theorem empty_false (s : ByteArray) : empty s = false ↔ s ≠ ⟨#[]⟩ := by
  rw [← Bool.not_eq_true, empty_iff]
theorem rright_zero (r : Rc) (h : r.right = 0) : ROk r := by
  unfold Rc.right rightRcpt at h
  split at h
  · omega
  · rename_i h1
    split at h
    · omega
    · rename_i h2
      split at h
      · omega
      · rename_i h3
        refine ⟨(contains_iff nts r.nt).1 (by rw [Bool.not_eq_false] at h1; exact h1), ?_⟩
        rw [not_or] at h2
        obtain ⟨h4, h5⟩ := h2
        by_cases hk : r.kd = ⟨#[]⟩
        · left
          refine ⟨hk, ?_⟩
          have he : empty r.kd = true := (empty_iff _).2 hk
          rw [he] at h4
          by_cases ho : r.oc = ⟨#[]⟩
          · exact ho
          · exact absurd (by rw [(empty_false _).2 ho]; rfl) h4
        · right
          have he : empty r.kd = false := (empty_false _).2 hk
          rw [he] at h4 h5
          refine ⟨hk, ?_, ?_, ?_, by omega⟩
          · intro ho
            exact h4 (by rw [(empty_iff _).2 ho]; rfl)
          · cases ht : typed r.kd.data.toList with
            | true => rfl
            | false => exact absurd ⟨rfl, .inl ht⟩ h5
          · by_cases hu : (⟨(Txt.upper r.kd.data.toList).toArray⟩ : ByteArray) = r.kd
            · exact hu
            · exact absurd ⟨rfl, .inr hu⟩ h5
theorem rright_of (r : Rc) (h : ROk r) : r.right = 0 := by
  unfold Rc.right rightRcpt
  have h1 : Lib.containsS nts r.nt = true := (contains_iff _ _).2 h.nt
  have h1' : ¬ (Lib.containsS [⟨#[]⟩, ⟨#[78]⟩, ⟨#[83]⟩, ⟨#[70]⟩, ⟨#[68]⟩, ⟨#[83, 70]⟩, ⟨#[83, 68]⟩, ⟨#[70, 68]⟩, ⟨#[83, 70, 68]⟩] r.nt = false) := fun q => Bool.false_ne_true (q.symm.trans h1)
  rw [if_neg h1']
  rcases h.ko with ⟨k1, k2⟩ | ⟨k1, k2, k3, k4, k5⟩
  · rw [if_neg, if_neg]
    · rw [k2]; decide
    · rw [k1, k2, (empty_iff _).2 rfl]
      rintro (q | ⟨q, _⟩)
      · simp at q
      · cases q
  · rw [if_neg, if_neg (by omega)]
    rw [(empty_false _).2 k1, (empty_false _).2 k2, k3]
    rintro (q | ⟨_, q | q⟩)
    · simp at q
    · simp at q
    · exact q k4
/-- The words of a recipient. -/
def Rc.words (r : Rc) : List ByteArray := more (!r.kd.toList.isEmpty) ⟨#[79, 82, 67, 80, 84]⟩ (r.kd ++ ⟨#[59]⟩ ++ encB r.oc) (more (decide (nameK r.nt 3 ≠ [])) ⟨#[78, 79, 84, 73, 70, 89]⟩ (joinB (nameK r.nt 3) ⟨#[44]⟩) [])
def Rc.text (r : Rc) : ByteArray := rcptText r.nt r.kd r.oc
theorem bytes_assoc (a b c : ByteArray) : a ++ b ++ c = a ++ (b ++ c) := by
  apply ByteArray.ext
  simp [Array.append_assoc]
theorem rtext_words (r : Rc) : r.text = joinB r.words ⟨#[32]⟩ := by
  unfold Rc.text rcptText Rc.words
  congr 1
  have h1 : wNt r.nt = more (decide (nameK r.nt 3 ≠ [])) ⟨#[78, 79, 84, 73, 70, 89]⟩ (joinB (nameK r.nt 3) ⟨#[44]⟩) [] := by
    unfold wNt more word
    by_cases hn : nameK r.nt 3 = []
    · rw [if_pos hn, if_neg (by simp [hn])]
    · rw [if_neg hn, if_pos (by simp [hn]), List.nil_append]
      rfl
  rw [h1]
  cases hk : (r.kd.toList == []) with
  | true =>
    have hk2 : (!r.kd.toList.isEmpty) = false := by
      have : r.kd.toList = [] := by simpa using hk
      rw [this]; rfl
    rw [hk2, if_pos rfl, List.append_nil]
    rfl
  | false =>
    have hk2 : (!r.kd.toList.isEmpty) = true := by
      have : r.kd.toList ≠ [] := by simpa using hk
      simpa using this
    rw [hk2, if_neg (by simp)]
    unfold more
    rw [if_pos rfl]
    unfold wOc word
    congr 2
theorem decoded_enc (oc : ByteArray) (n : Int) (h0 : oc ≠ ⟨#[]⟩) (h1 : (oc.size : Int) ≤ n) : decoded (encB oc).data.toList n = (oc.data.toList, 0) := by
  unfold decoded
  rw [show (encB oc).data.toList = Tx.enc oc.data.toList from rfl, Tx.dec_enc]
  cases hl : oc.data.toList with
  | nil => exact absurd (ByteArray.ext (Array.toList_inj.1 hl)) h0
  | cons c r =>
    have hz : oc.data.toList.length = oc.size := by simp
    rw [hl] at hz
    simp only
    rw [if_neg (by omega)]
theorem typed_no (l : List UInt8) (h : typed l = true) (b : UInt8) (hb : Txt.letter b = false) : b ∉ l := by
  intro hm
  unfold typed at h
  rw [Bool.and_eq_true] at h
  have := List.all_eq_true.1 h.2 b hm
  rw [hb] at this
  cases this
theorem nt_facts : ∀ nt ∈ nts, (nameK nt 3 ≠ [] → Pm.notify (joinB (nameK nt 3) ⟨#[44]⟩) = (nt.data.toList, 0) ∧ 32 ∉ (joinB (nameK nt 3) ⟨#[44]⟩).data.toList) ∧ (nameK nt 3 = [] → nt = ⟨#[]⟩) := by
  intro nt h
  simp only [nts, List.mem_cons, List.not_mem_nil, or_false] at h
  rcases h with rfl | rfl | rfl | rfl | rfl | rfl | rfl | rfl | rfl
  · exact ⟨fun q => absurd (by kernel_rfl) q, fun _ => rfl⟩
  all_goals exact ⟨fun _ => ⟨by kernel_rfl, by decide +kernel⟩, fun q => absurd q (by decide +kernel)⟩
theorem rwords_run (r : Rc) (h : ROk r) : ∃ seen, ∀ rest, wordsRun rcptPlain (r.words ++ rest) [] Rc.zero = wordsRun rcptPlain rest seen r := by
  obtain ⟨nt, kd, oc⟩ := r
  obtain ⟨h1, h2⟩ := h
  simp only at h1 h2
  have hnt := nt_facts nt h1
  have r0 : ∀ rest, wordsRun rcptPlain ([] ++ rest) [] Rc.zero = wordsRun rcptPlain rest [] Rc.zero := fun rest => rfl
  obtain ⟨s1, r1, m1⟩ := more_runs (old := []) (x' := { Rc.zero with nt := nt }) r0 (fun y hy => hy) (decide (nameK nt 3 ≠ [])) ⟨#[78, 79, 84, 73, 70, 89]⟩ (joinB (nameK nt 3) ⟨#[44]⟩) (by decide) (by rfl) (by simp) ⟨⟨#[78, 79, 84, 73, 70, 89]⟩, 0, #[], stNt⟩ (by rfl)
    (by intro q
        have hn := (hnt.1 (by simpa using q)).1
        show ({ Rc.zero with nt := ⟨(notify (joinB (nameK nt 3) ⟨#[44]⟩)).1.toArray⟩ }, (notify (joinB (nameK nt 3) ⟨#[44]⟩)).2) = _
        rw [hn])
    (by intro q
        rw [hnt.2 (by simpa using q)]
        rfl)
  clear r0
  obtain ⟨s2, r2, m2⟩ := more_runs (x' := ⟨nt, kd, oc⟩) r1 m1 (!kd.toList.isEmpty) ⟨#[79, 82, 67, 80, 84]⟩ (kd ++ ⟨#[59]⟩ ++ encB oc) (by decide) (by rfl) (by simp) ⟨⟨#[79, 82, 67, 80, 84]⟩, 0, #[], stOc⟩ (by rfl)
    (by intro q
        rcases h2 with ⟨k1, _⟩ | ⟨k1, k2, k3, k4, k5⟩
        · exact absurd k1 (empty_ne q)
        · have hcut : Lib.cut (kd ++ ⟨#[59]⟩ ++ encB oc).data.toList [59] = (kd.data.toList, (encB oc).data.toList, true) := by
            have : (kd ++ ⟨#[59]⟩ ++ encB oc).data.toList = kd.data.toList ++ 59 :: (encB oc).data.toList := by simp
            rw [this, Tok.cut_eq]
            exact Tok.cut_at _ (typed_no _ k3 59 (by decide))
          show stOc _ _ = _
          unfold stOc
          rw [hcut]
          simp only
          rw [if_neg (by rw [k3]; simp), decoded_enc oc 256 k2 (by omega), show (⟨(Txt.upper kd.data.toList).toArray⟩ : ByteArray) = kd from k4])
    (by intro q
        have hk := empty_eq q
        rcases h2 with ⟨k1, k2⟩ | ⟨k1, _⟩
        · rw [k1, k2]; rfl
        · exact absurd hk k1)
  exact ⟨s2, r2⟩
theorem rwords_no32 (r : Rc) (h : ROk r) : ∀ w ∈ r.words, 32 ∉ w.data.toList := by
  unfold Rc.words
  refine more_mem (more_mem (by simp) ?_) ?_
  · intro q
    exact no32_word (by decide) (by decide) ((nt_facts r.nt h.nt).1 (by simpa using q)).2
  · intro q
    refine no32_word (by decide) (by decide) ?_
    rcases h.ko with ⟨k1, _⟩ | ⟨k1, k2, k3, k4, k5⟩
    · exact absurd k1 (empty_ne q)
    · simp only [ByteArray.data_append, Array.toList_append, List.mem_append, not_or]
      exact ⟨⟨typed_no _ k3 32 (by decide), by decide⟩, Tx.enc_no32 _⟩
theorem rwords_full (r : Rc) : ∀ w ∈ r.words, w.data.toList ≠ [] := by
  have hw : ∀ key val : ByteArray, (word key val).data.toList ≠ [] := fun key val => by simp [word]
  unfold Rc.words
  exact more_mem (more_mem (by simp) (fun _ => hw _ _)) (fun _ => hw _ _)
/-- What was printed is parsed. -/
theorem rparse_printed (r : Rc) (h : r.right = 0) : parseRcpt r.text = (r, 0) := by
  have hok := rright_zero r h
  obtain ⟨seen, hrun⟩ := rwords_run r hok
  have h0 : wordsRun rcptPlain r.words [] Rc.zero = (r, 0) := by
    have := hrun []
    rw [List.append_nil] at this
    rw [this]
    rfl
  have hall : wordsAll rcptPlain r.text Rc.zero = (r, 0) := by
    rw [rtext_words]
    unfold wordsAll
    by_cases hw : r.words = []
    · rw [hw] at h0 ⊢
      rw [if_pos (by rfl)]
      exact h0
    · rw [if_neg (joinB_ne _ _ hw (rwords_full r)), parts_join 32 r.words hw (rwords_no32 r hok)]
      exact h0
  unfold parseRcpt
  rw [hall]
  simp only
  rw [if_neg (by simp)]
theorem rzero_ok : ROk Rc.zero := ⟨by simp [nts, Rc.zero], .inl ⟨rfl, rfl⟩⟩
theorem ntOne_or (st : List ByteArray × List UInt8) (nm : ByteArray) (c : UInt8) : (ntOne st nm c).2 = st.2 ∨ (ntOne st nm c).2 = st.2 ++ [c] := by
  unfold ntOne
  split
  · exact .inr rfl
  · exact .inl rfl
theorem notify_nts (v : ByteArray) : (⟨(Pm.notify v).1.toArray⟩ : ByteArray) ∈ nts := by
  unfold Pm.notify
  split
  · simp [nts]
  · split
    · simp [nts]
    · unfold ntAll
      rcases ntOne_or (parts 44 (upB v), []) nSuc 83 with a | a <;>
      rcases ntOne_or (ntOne (parts 44 (upB v), []) nSuc 83) nFai 70 with b | b <;>
      rcases ntOne_or (ntOne (ntOne (parts 44 (upB v), []) nSuc 83) nFai 70) nDel 68 with c | c <;>
      · simp only [c, b, a, List.nil_append, List.cons_append]; simp [nts]
theorem rsteps_ok : ∀ K ∈ rcptPlain, ∀ v s, ROk s → (K.step v s).2 = 0 → ROk (K.step v s).1 := by
  intro K hK v r h h0
  simp only [rcptPlain, List.mem_cons, List.not_mem_nil, or_false] at hK
  rcases hK with rfl | rfl
  · exact ⟨notify_nts v, h.ko⟩
  · show ROk (stOc v r).1
    have h1 : (stOc v r).2 = 0 := h0
    unfold stOc at h1 ⊢
    split at h1
    · simp at h1
    · rename_i ht
      rw [if_neg ht]
      have ht : typed (Lib.cut v.data.toList [59]).1 = true := by simpa using ht
      generalize Lib.cut v.data.toList [59] = q at ht h1
      have hd := decoded_zero h1
      have ht2 := ht
      unfold typed at ht2
      rw [Bool.and_eq_true, decide_eq_true_eq] at ht2
      have hlen : (Txt.upper q.1).length = q.1.length := by simp [Txt.upper]
      refine ⟨h.nt, .inr ⟨?_, ?_, ?_, ?_, ?_⟩⟩
      · intro e
        have : (Txt.upper q.1) = [] := by
          have := congrArg (fun b : ByteArray => b.data.toList) e
          simpa using this
        rw [this] at hlen
        simp at hlen
        omega
      · intro e
        apply hd.2
        have := congrArg (fun b : ByteArray => b.data.toList) e
        simpa using this
      · show typed (Txt.upper q.1) = true
        unfold typed
        rw [hlen, Txt.all_letter_upper]
        exact ht
      · show (⟨(Txt.upper (Txt.upper q.1)).toArray⟩ : ByteArray) = ⟨(Txt.upper q.1).toArray⟩
        rw [Txt.upper_upper]
      · show (decoded q.2.1 256).1.toArray.size ≤ 256
        rw [List.size_toArray]
        omega
/-- What is parsed of any text may be printed. -/
theorem rparse_right (t : ByteArray) (h : (parseRcpt t).2 = 0) : (parseRcpt t).1.right = 0 := by
  unfold parseRcpt at h ⊢
  split at h
  · rename_i hn; exact absurd h hn
  · rename_i hn
    rw [if_neg hn]
    exact rright_of _ (all_inv rsteps_ok t Rc.zero rzero_ok (by simpa using hn))
end Pm
end Go.Proofs.YtfffdbjfhdkheaaGreatDoor
