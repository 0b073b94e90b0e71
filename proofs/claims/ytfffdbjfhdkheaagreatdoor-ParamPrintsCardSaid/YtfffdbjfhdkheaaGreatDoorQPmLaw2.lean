/-
  Plain laws of the words: what may be said of a message.
-/
import Derived.Test.YtfffdbjfhdkheaaGreatDoorQ4
import Derived.Test.YtfffdbjfhdkheaaGreatDoorQ3
import Derived.Test.YtfffdbjfhdkheaaGreatDoorQDtLaw
set_option linter.unusedVariables false
set_option linter.unusedSimpArgs false
namespace Go.Proofs.YtfffdbjfhdkheaaGreatDoor
open Go.RowKit Go.Shelf
set_option maxRecDepth 100000
namespace Pm
def Ml.right (m : Ml) : Int := rightMail m.hS m.hF m.hU m.hB m.hP m.s m.f m.u m.b m.p m.body m.ret m.envid m.mode
/-- What rightMail asks, but that a message isn't held twice. -/
structure MOk (m : Ml) : Prop where
  s : (m.hS = false ∧ m.s = 0) ∨ (m.hS = true ∧ 0 ≤ m.s ∧ m.s ≤ 999999999)
  f : (m.hF = false ∧ m.f = 0) ∨ (m.hF = true ∧ 1 ≤ m.f ∧ m.f ≤ 1048576)
  u : (m.hU = false ∧ m.u = 0) ∨ (m.hU = true ∧ 0 ≤ m.u ∧ m.u ≤ 253402300799)
  b : (m.hB = false ∧ m.b = 0 ∧ m.mode = ⟨#[]⟩) ∨ (m.hB = true ∧ m.mode ∈ modes ∧ least m.mode ≤ m.b ∧ m.b ≤ 999999999)
  p : (m.hP = false ∧ m.p = 0) ∨ (m.hP = true ∧ -9 ≤ m.p ∧ m.p ≤ 9)
  body : m.body = ⟨#[]⟩ ∨ m.body ∈ [n7, n8]
  ret : m.ret = ⟨#[]⟩ ∨ m.ret ∈ [nFull, nHdrs]
  env : m.envid.size ≤ 100
theorem empty_iff (s : ByteArray) : empty s = true ↔ s = ⟨#[]⟩ := by
  unfold empty
  rw [beq_iff_eq, Lib.toList_data]
  constructor
  · intro h
    exact ByteArray.ext (Array.toList_inj.1 h)
  · rintro rfl
    rfl
theorem contains_iff (l : List ByteArray) (s : ByteArray) : Lib.containsS l s = true ↔ s ∈ l := by
  unfold Lib.containsS
  rw [decide_eq_true_eq, Lib.idxOfS_nonneg_iff]
theorem among_iff (s : ByteArray) (l : List ByteArray) : among s l = true ↔ s = ⟨#[]⟩ ∨ s ∈ l := by
  unfold among
  rw [Bool.or_eq_true, empty_iff, contains_iff]
theorem said_iff (h : Bool) (n : Int) : said h n = true ↔ h = true ∨ n = 0 := by unfold said; simp
theorem inn_iff (h : Bool) (n lo hi : Int) : inn h n lo hi = true ↔ h = false ∨ (lo ≤ n ∧ n ≤ hi) := by unfold inn; simp
theorem modes_ne (s : ByteArray) (h : s ∈ modes) : s ≠ ⟨#[]⟩ := by
  rintro rfl
  simp [modes] at h
theorem right_zero (m : Ml) (h : m.right = 0) : MOk m ∧ ¬ (m.hF = true ∧ m.hU = true) := by
  unfold Ml.right rightMail at h
  split at h
  · omega
  · rename_i h1
    split at h
    · omega
    · rename_i h2
      split at h
      · omega
      · rename_i h3
        split at h
        · omega
        · rename_i h4
          split at h
          · omega
          · rename_i h5
            simp only [Bool.not_eq_false, Bool.and_eq_true, said_iff, inn_iff, among_iff, Bool.not_eq_true'] at h1 h2 h3
            obtain ⟨⟨⟨⟨a1, a2⟩, a3⟩, a4⟩, a5⟩ := h1
            obtain ⟨⟨⟨b1, b2⟩, b3⟩, b4⟩ := h2
            obtain ⟨⟨⟨⟨c1, c2⟩, c3⟩, c4⟩, c5⟩ := h3
            have hmode : (m.hB = false ∧ m.mode = ⟨#[]⟩) ∨ (m.hB = true ∧ m.mode ∈ modes) := by
              cases hb : m.hB with
              | false =>
                rw [hb] at b4
                cases he : empty m.mode with
                | false => rw [he] at b4; simp at b4
                | true => exact .inl ⟨rfl, (empty_iff _).1 he⟩
              | true =>
                rw [hb] at b4
                rcases b3 with b3 | b3
                · rw [(empty_iff _).2 b3] at b4; simp at b4
                · exact .inr ⟨rfl, b3⟩
            refine ⟨⟨?_, ?_, ?_, ?_, ?_, b1, b2, by omega⟩, by simpa using h5⟩
            · cases hh : m.hS with
              | false => rw [hh] at a1; exact .inl ⟨rfl, by simpa using a1⟩
              | true => rw [hh] at c1; exact .inr ⟨rfl, by simpa using c1⟩
            · cases hh : m.hF with
              | false => rw [hh] at a2; exact .inl ⟨rfl, by simpa using a2⟩
              | true => rw [hh] at c2; exact .inr ⟨rfl, by simpa using c2⟩
            · cases hh : m.hU with
              | false => rw [hh] at a3; exact .inl ⟨rfl, by simpa using a3⟩
              | true => rw [hh] at c3; exact .inr ⟨rfl, by simpa using c3⟩
            · rcases hmode with ⟨hh, h6⟩ | ⟨hh, h6⟩
              · rw [hh] at a4; exact .inl ⟨hh, by simpa using a4, h6⟩
              · rw [hh] at c4; exact .inr ⟨hh, h6, by simpa using c4⟩
            · cases hh : m.hP with
              | false => rw [hh] at a5; exact .inl ⟨rfl, by simpa using a5⟩
              | true => rw [hh] at c5; exact .inr ⟨rfl, by simpa using c5⟩
theorem right_of (m : Ml) (h : MOk m) (hn : ¬ (m.hF = true ∧ m.hU = true)) : m.right = 0 := by
  have e1 : (said m.hS m.s && said m.hF m.f && said m.hU m.u && said m.hB m.b && said m.hP m.p) = true := by
    simp only [Bool.and_eq_true, said_iff]
    exact ⟨⟨⟨⟨by rcases h.s with k | k <;> simp [k], by rcases h.f with k | k <;> simp [k]⟩, by rcases h.u with k | k <;> simp [k]⟩, by rcases h.b with k | k <;> simp [k]⟩, by rcases h.p with k | k <;> simp [k]⟩
  have e2 : (among m.body [⟨#[55, 66, 73, 84]⟩, ⟨#[56, 66, 73, 84, 77, 73, 77, 69]⟩] && among m.ret [⟨#[70, 85, 76, 76]⟩, ⟨#[72, 68, 82, 83]⟩] && among m.mode [⟨#[82]⟩, ⟨#[78]⟩, ⟨#[82, 84]⟩, ⟨#[78, 84]⟩] && !(empty m.mode == m.hB)) = true := by
    simp only [Bool.and_eq_true, among_iff, Bool.not_eq_true']
    refine ⟨⟨⟨h.body, h.ret⟩, ?_⟩, ?_⟩
    · rcases h.b with k | k
      · exact .inl k.2.2
      · exact .inr k.2.1
    · rcases h.b with k | k
      · rw [k.1, (empty_iff _).2 k.2.2]; rfl
      · rw [k.1]
        have : empty m.mode = false := by
          cases he : empty m.mode with
          | false => rfl
          | true => exact absurd ((empty_iff _).1 he) (modes_ne _ k.2.1)
        rw [this]; rfl
  have e3 : (inn m.hS m.s 0 999999999 && inn m.hF m.f 1 1048576 && inn m.hU m.u 0 253402300799 && inn m.hB m.b (least m.mode) 999999999 && inn m.hP m.p (-9) 9) = true := by
    simp only [Bool.and_eq_true, inn_iff]
    exact ⟨⟨⟨⟨by rcases h.s with k | k <;> simp [k], by rcases h.f with k | k <;> simp [k]⟩, by rcases h.u with k | k <;> simp [k]⟩, by rcases h.b with k | k <;> simp [k]⟩, by rcases h.p with k | k <;> simp [k]⟩
  have e4 := h.env
  unfold Ml.right rightMail
  rw [if_neg (by rw [e1]; simp), if_neg (by rw [e2]; simp), if_neg (by rw [e3]; simp), if_neg (by omega), if_neg (by simpa using hn)]
end Pm
end Go.Proofs.YtfffdbjfhdkheaaGreatDoor
