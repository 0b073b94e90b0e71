/-
  The walk of reply.read at any text.
-/
import Derived.Test.YtfeedokfcebjjaaDoorRpRead
set_option linter.unusedVariables false
set_option linter.unusedSimpArgs false
namespace Tok
theorem split_len (c : UInt8) (l : List UInt8) : ∀ q ∈ split c l, q.length ≤ l.length := by
  induction l with
  | nil => intro q hq; simp [split] at hq; subst hq; simp
  | cons x l ih =>
    intro q hq
    unfold split at hq
    split at hq
    · rcases List.mem_cons.1 hq with rfl | hq
      · simp
      · have := ih q hq; simp; omega
    · split at hq
      · rename_i e; exact absurd e (split_ne c l)
      · rename_i p r e
        rcases List.mem_cons.1 hq with rfl | hq
        · have := ih p (by rw [e]; simp); simp; omega
        · have := ih q (by rw [e]; simp [hq]); simp; omega
theorem cut_len (c : UInt8) (l : List UInt8) : (cut c l).1.length ≤ l.length := by
  induction l with
  | nil => simp [cut]
  | cons x l ih => unfold cut; split <;> simp <;> omega
end Tok
namespace Go.Proofs.YtfeedokfcebjjaaDoor
open Go.RowKit
theorem read_any (code : Int) (s : ByteArray) (w : World) (hE : Env w) (hs : s.size < 4294967281) :
    Calls Tryd.prog 39 #[.int .i64 code, .string s] w fun e w' => e = .returned (rdV (Rp.rd code s.data.toList)) ∧ Below w.heap.size w w' := by
  have hds : s.data.toList.length = s.size := by simp
  obtain ⟨p, r, ok, hc⟩ : ∃ p r ok, Tok.cut 32 s.data.toList = (p, r, ok) := ⟨_, _, _, rfl⟩
  have hp : p.length ≤ s.size := by have := Tok.cut_len 32 s.data.toList; rw [hc, hds] at this; exact this
  have hsz : (⟨p.toArray⟩ : ByteArray).size < 4294967281 := by show p.toArray.size < _; simp; omega
  obtain ⟨hm, hn⟩ := Tok.split_eq 46 _ ⟨p.toArray⟩ (Nat.le_refl _)
  rw [show (⟨p.toArray⟩ : ByteArray).data.toList = p from rfl] at hm hn
  have hsplit := fun W (hW : Env W) => Tryd.strings_Split_shaped ⟨p.toArray⟩ ⟨#[46]⟩ W hW.shaped hsz (by decide)
  generalize hps : Lib.splitB ⟨#[46]⟩ 0 (Lib.countB ⟨p.toArray⟩ ⟨#[46]⟩) ⟨p.toArray⟩ = ps at hm hsplit
  have hl : ps.length = Lib.countB ⟨p.toArray⟩ ⟨#[46]⟩ + 1 := by rw [hn, ← hm]; simp
  generalize hcnt : Lib.countB ⟨p.toArray⟩ ⟨#[46]⟩ + 1 = n at hl hsplit hn
  clear hps hcnt
  have hrd : Rp.rd code s.data.toList = Rp.rd3 code r ok (Tok.split 46 p) := by unfold Rp.rd; rw [hc]
  by_cases h3 : ok = true ∧ n = 3
  · obtain ⟨rfl, rfl⟩ := h3
    match ps, hl with
    | [p0, p1, p2], _ =>
      simp only [List.map_cons, List.map_nil] at hm hsplit
      rw [← hm] at hrd
      have hb := Tok.split_len 46 p
      rw [← hm] at hb
      have s0 : p0.size ≤ p.length := by have := hb p0.data.toList (by simp); simpa using this
      have s1 : p1.size ≤ p.length := by have := hb p1.data.toList (by simp); simpa using this
      have s2 : p2.size ≤ p.length := by have := hb p2.data.toList (by simp); simpa using this
      rw [hrd]
      exact read_like code s w hE hs p r hc p0 p1 p2 (by omega) (by omega) (by omega) hsplit
  · have hf : Rp.rd code s.data.toList = (0, 0, 0, [], false) := by rw [hrd, Rp.rd3_not (by rw [← hn]; exact h3)]
    rw [hf]
    refine read_unlike code s w hE hs p r ok n hc ?_ ps hl hsplit
    cases ok with
    | false => exact .inl rfl
    | true => exact .inr ⟨rfl, fun e => h3 ⟨rfl, e⟩⟩
end Go.Proofs.YtfeedokfcebjjaaDoor
