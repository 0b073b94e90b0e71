/-
  The reference's texts of a message and of a recipient are the program's (plain).
-/
import Derived.Test.YtfffdbjfhdkheaaGreatDoorQPfA
import Derived.Test.YtfffdbjfhdkheaaGreatDoorQPmLaw5
import Derived.Test.YtfffdbjfhdkheaaGreatDoorQPmLaw6
set_option linter.unusedVariables false
set_option linter.unusedSimpArgs false
namespace Go.Proofs.YtfffdbjfhdkheaaGreatDoor
open Go.RowKit Go.Shelf Pm
set_option maxRecDepth 100000
namespace Pf
theorem more_join (ws : List ByteArray) (hne : ∀ w ∈ ws, w.data.toList ≠ []) (has : Bool) (key val : ByteArray) : Pf.more (joinB ws ⟨#[32]⟩) has (word key val) = joinB (Pm.more has key val ws) ⟨#[32]⟩ := by
  unfold Pf.more Pm.more
  cases has with
  | false => rfl
  | true =>
    rw [if_neg (by decide), if_pos rfl]
    by_cases h0 : ws = []
    · subst h0
      rw [if_pos (by kernel_rfl), List.nil_append]
      apply ByteArray.ext
      simp [joinB, Lib.join, List.intercalate]
    · have := joinB_ne ws ⟨#[32]⟩ h0 hne
      rw [if_neg (by rw [Lib.toList_data]; simpa using this), joinB_snoc _ h0]
theorem more_full (ws : List ByteArray) (hne : ∀ w ∈ ws, w.data.toList ≠ []) (has : Bool) (key val : ByteArray) : ∀ w ∈ Pm.more has key val ws, w.data.toList ≠ [] :=
  more_mem hne (fun _ => by simp [word])
/-- The reference's text of a message, word by word. -/
noncomputable def t0 (m : Ml) : ByteArray := Pf.more ⟨#[]⟩ m.hS ((⟨#[83, 73, 90, 69, 61]⟩ : ByteArray) ++ itoaB m.s)
noncomputable def t1 (m : Ml) : ByteArray := Pf.more (t0 m) (!m.body.toList.isEmpty) ((⟨#[66, 79, 68, 89, 61]⟩ : ByteArray) ++ m.body)
noncomputable def t2 (m : Ml) : ByteArray := Pf.more (t1 m) (!m.ret.toList.isEmpty) ((⟨#[82, 69, 84, 61]⟩ : ByteArray) ++ m.ret)
noncomputable def t3 (m : Ml) : ByteArray := Pf.more (t2 m) (!m.envid.toList.isEmpty) ((⟨#[69, 78, 86, 73, 68, 61]⟩ : ByteArray) ++ encB m.envid)
noncomputable def t4 (m : Ml) : ByteArray := Pf.more (t3 m) m.hF ((⟨#[72, 79, 76, 68, 70, 79, 82, 61]⟩ : ByteArray) ++ itoaB m.f)
noncomputable def t5 (m : Ml) : ByteArray := Pf.more (t4 m) m.hU ((⟨#[72, 79, 76, 68, 85, 78, 84, 73, 76, 61]⟩ : ByteArray) ++ dateB m.u)
noncomputable def t6 (m : Ml) : ByteArray := Pf.more (t5 m) m.hB ((⟨#[66, 89, 61]⟩ : ByteArray) ++ itoaB m.b ++ ⟨#[59]⟩ ++ m.mode)
noncomputable def t7 (m : Ml) : ByteArray := Pf.more (t6 m) m.hP ((⟨#[77, 84, 45, 80, 82, 73, 79, 82, 73, 84, 89, 61]⟩ : ByteArray) ++ itoaB m.p)
theorem word_of (key key' val : ByteArray) (h : key ++ ⟨#[61]⟩ = key') : key' ++ val = word key val := by unfold word; rw [h]
theorem text_eq (m : Ml) : t7 m = m.text := by
  have e0 := more_join [] (fun w h => by cases h) m.hS ⟨#[83, 73, 90, 69]⟩ (itoaB m.s)
  have n0 := more_full [] (fun w h => by cases h) m.hS ⟨#[83, 73, 90, 69]⟩ (itoaB m.s)
  rw [← word_of ⟨#[83, 73, 90, 69]⟩ ⟨#[83, 73, 90, 69, 61]⟩ _ (by rfl)] at e0
  rw [show joinB [] ⟨#[32]⟩ = (⟨#[]⟩ : ByteArray) from rfl] at e0
  change t0 m = _ at e0
  have e1 := more_join _ n0 (!m.body.toList.isEmpty) ⟨#[66, 79, 68, 89]⟩ m.body
  have n1 := more_full _ n0 (!m.body.toList.isEmpty) ⟨#[66, 79, 68, 89]⟩ m.body
  rw [← e0, ← word_of ⟨#[66, 79, 68, 89]⟩ ⟨#[66, 79, 68, 89, 61]⟩ _ (by rfl)] at e1
  change t1 m = _ at e1
  have e2 := more_join _ n1 (!m.ret.toList.isEmpty) ⟨#[82, 69, 84]⟩ m.ret
  have n2 := more_full _ n1 (!m.ret.toList.isEmpty) ⟨#[82, 69, 84]⟩ m.ret
  rw [← e1, ← word_of ⟨#[82, 69, 84]⟩ ⟨#[82, 69, 84, 61]⟩ _ (by rfl)] at e2
  change t2 m = _ at e2
  have e3 := more_join _ n2 (!m.envid.toList.isEmpty) ⟨#[69, 78, 86, 73, 68]⟩ (encB m.envid)
  have n3 := more_full _ n2 (!m.envid.toList.isEmpty) ⟨#[69, 78, 86, 73, 68]⟩ (encB m.envid)
  rw [← e2, ← word_of ⟨#[69, 78, 86, 73, 68]⟩ ⟨#[69, 78, 86, 73, 68, 61]⟩ _ (by rfl)] at e3
  change t3 m = _ at e3
  have e4 := more_join _ n3 m.hF ⟨#[72, 79, 76, 68, 70, 79, 82]⟩ (itoaB m.f)
  have n4 := more_full _ n3 m.hF ⟨#[72, 79, 76, 68, 70, 79, 82]⟩ (itoaB m.f)
  rw [← e3, ← word_of ⟨#[72, 79, 76, 68, 70, 79, 82]⟩ ⟨#[72, 79, 76, 68, 70, 79, 82, 61]⟩ _ (by rfl)] at e4
  change t4 m = _ at e4
  have e5 := more_join _ n4 m.hU ⟨#[72, 79, 76, 68, 85, 78, 84, 73, 76]⟩ (dateB m.u)
  have n5 := more_full _ n4 m.hU ⟨#[72, 79, 76, 68, 85, 78, 84, 73, 76]⟩ (dateB m.u)
  rw [← e4, ← word_of ⟨#[72, 79, 76, 68, 85, 78, 84, 73, 76]⟩ ⟨#[72, 79, 76, 68, 85, 78, 84, 73, 76, 61]⟩ _ (by rfl)] at e5
  change t5 m = _ at e5
  have e6 := more_join _ n5 m.hB ⟨#[66, 89]⟩ (itoaB m.b ++ ⟨#[59]⟩ ++ m.mode)
  have n6 := more_full _ n5 m.hB ⟨#[66, 89]⟩ (itoaB m.b ++ ⟨#[59]⟩ ++ m.mode)
  rw [← e5, ← word_of ⟨#[66, 89]⟩ ⟨#[66, 89, 61]⟩ _ (by rfl), ← bytes_assoc, ← bytes_assoc] at e6
  change t6 m = _ at e6
  have e7 := more_join _ n6 m.hP ⟨#[77, 84, 45, 80, 82, 73, 79, 82, 73, 84, 89]⟩ (itoaB m.p)
  have n7 := more_full _ n6 m.hP ⟨#[77, 84, 45, 80, 82, 73, 79, 82, 73, 84, 89]⟩ (itoaB m.p)
  rw [← e6, ← word_of ⟨#[77, 84, 45, 80, 82, 73, 79, 82, 73, 84, 89]⟩ ⟨#[77, 84, 45, 80, 82, 73, 79, 82, 73, 84, 89, 61]⟩ _ (by rfl)] at e7
  change t7 m = _ at e7
  rw [e7]
  rfl
theorem more_size (s : ByteArray) (has : Bool) (v : ByteArray) : (Pf.more s has v).size ≤ s.size + v.size + 1 := by
  unfold Pf.more
  split
  · omega
  · split
    · omega
    · simp only [ByteArray.size_append]
      have : (⟨#[32]⟩ : ByteArray).size = 1 := rfl
      omega
/-- What the reference's letters come to. -/
def ntName (c : UInt8) : ByteArray := if c = 78 then nNev else if c = 83 then nSuc else if c = 70 then nFai else if c = 68 then nDel else ⟨#[]⟩
/-- The names of the first k letters, with commas. -/
def ntRun (nt : ByteArray) : Nat → ByteArray
  | 0 => ⟨#[]⟩
  | k + 1 => (if 0 < k then ntRun nt k ++ ⟨#[44]⟩ else ntRun nt k) ++ ntName (nt.data.toList.getD k 0)
theorem nt_run : ∀ nt ∈ nts, ntRun nt nt.size = joinB (nameK nt 3) ⟨#[44]⟩ ∧ (!(ntRun nt nt.size).toList.isEmpty) = decide (nameK nt 3 ≠ []) := by
  intro nt h
  simp only [nts, List.mem_cons, List.not_mem_nil, or_false] at h
  rcases h with h | h | h | h | h | h | h | h | h <;> subst h <;> exact ⟨by kernel_rfl, by kernel_rfl⟩
theorem nt_letters : ∀ nt ∈ nts, nt.size ≤ 3 ∧ ∀ c ∈ nt.data.toList, c = 78 ∨ c = 83 ∨ c = 70 ∨ c = 68 := by
  intro nt h
  simp only [nts, List.mem_cons, List.not_mem_nil, or_false] at h
  rcases h with h | h | h | h | h | h | h | h | h <;> subst h <;> exact ⟨by decide, by decide⟩
theorem ntName_size (c : UInt8) : (ntName c).size ≤ 7 := by
  unfold ntName
  split
  · decide
  · split
    · decide
    · split
      · decide
      · split <;> decide
theorem ntRun_size (nt : ByteArray) (k : Nat) : (ntRun nt k).size ≤ 8 * k := by
  induction k with
  | zero => exact Nat.le_refl _
  | succ k ih =>
    unfold ntRun
    have h1 := ntName_size (nt.data.toList.getD k 0)
    split <;> simp only [ByteArray.size_append]
    · have : (⟨#[44]⟩ : ByteArray).size = 1 := rfl
      omega
    · omega
theorem ntRun_next (nt : ByteArray) (k : Nat) (h : k < nt.size) (c : UInt8) (hc : nt[k] = c) : ntRun nt (k + 1) = (if 0 < k then ntRun nt k ++ ⟨#[44]⟩ else ntRun nt k) ++ ntName c := by
  have hl : k < nt.data.toList.length := by simpa using h
  have : nt.data.toList.getD k 0 = c := by
    rw [List.getD_eq_getElem?_getD, List.getElem?_eq_getElem hl]
    exact hc
  rw [ntRun, this]
def u0 (r : Rc) : ByteArray := Pf.more ⟨#[]⟩ (!(ntRun r.nt r.nt.size).toList.isEmpty) ((⟨#[78, 79, 84, 73, 70, 89, 61]⟩ : ByteArray) ++ ntRun r.nt r.nt.size)
def u1 (r : Rc) : ByteArray := Pf.more (u0 r) (!r.kd.toList.isEmpty) ((⟨#[79, 82, 67, 80, 84, 61]⟩ : ByteArray) ++ r.kd ++ ⟨#[59]⟩ ++ encB r.oc)
theorem rtext_eq (r : Rc) (h : r.nt ∈ nts) : u1 r = r.text := by
  obtain ⟨h1, h2⟩ := nt_run r.nt h
  have e0 : u0 r = joinB (Pm.more (decide (nameK r.nt 3 ≠ [])) ⟨#[78, 79, 84, 73, 70, 89]⟩ (joinB (nameK r.nt 3) ⟨#[44]⟩) []) ⟨#[32]⟩ := by
    unfold u0; rw [h2, h1, word_of ⟨#[78, 79, 84, 73, 70, 89]⟩ _ _ (by rfl)]; exact more_join [] (fun w h => by cases h) _ _ _
  have n0 := more_full [] (fun w h => by cases h) (decide (nameK r.nt 3 ≠ [])) ⟨#[78, 79, 84, 73, 70, 89]⟩ (joinB (nameK r.nt 3) ⟨#[44]⟩)
  unfold u1
  rw [e0, bytes_assoc, bytes_assoc, word_of ⟨#[79, 82, 67, 80, 84]⟩ _ _ (by rfl), ← bytes_assoc, rtext_words]
  exact more_join _ n0 _ _ _
end Pf
end Go.Proofs.YtfffdbjfhdkheaaGreatDoor
