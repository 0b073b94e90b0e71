/-
  reply.Parse, as its callers need it; what is kept in the midst of a law.
-/
import Derived.Test.YtfeedokfcebjjaaDoorRpParse
set_option linter.unusedVariables false
set_option linter.unusedSimpArgs false
namespace Go.Proofs.YtfeedokfcebjjaaDoor
open Go.RowKit
theorem parse_bad (l : List ByteArray) (A : Option Addr) (cp : Nat) (x : Int) (h : Rp.prs 0 0 l = (x, 0, 0)) (hx : x ≠ 0) (w : World) (hE : Env w) (hS : Strs w A l) (hs : ∀ s ∈ l, s.size ≤ 1000000) (hl : l.length ≤ 1000000) :
    Calls Tryd.prog 10 #[.slice A l.length cp] w fun e w' => e = .returned (.tuple #[.agg #[.int .i64 0, .int .i64 0, .int .i64 0, .int .i64 0, .slice none 0 0], .int .i64 0, .int .i64 x]) ∧ Below w.heap.size w w' :=
  (parse_any l A cp w hE hS hs hl).mono fun e w' ⟨hb, hp⟩ => by
    rcases hp with ⟨_, he⟩ | ⟨h0, _⟩
    · rw [h] at he; exact ⟨he, hb⟩
    · rw [h] at h0; exact absurd h0 hx
theorem parse_good (l : List ByteArray) (A : Option Addr) (cp : Nat) (k : Nat) (n f1 f2 f3 : Int) (xs : List ByteArray) (h : Rp.prs 0 0 l = (0, k, n)) (hbo : Rp.body n ((l.take k).map Rp.say) = ((f1, f2, f3), xs)) (w : World) (hE : Env w) (hS : Strs w A l) (hs : ∀ s ∈ l, s.size ≤ 1000000) (hl : l.length ≤ 1000000) :
    Calls Tryd.prog 10 #[.slice A l.length cp] w fun e w' => ∃ A' cp', e = .returned (.tuple #[.agg #[.int .i64 n, .int .i64 f1, .int .i64 f2, .int .i64 f3, .slice A' k cp'], .int .i64 k, .int .i64 0]) ∧ Strs w' A' xs ∧ Below w.heap.size w w' :=
  (parse_any l A cp w hE hS hs hl).mono fun e w' ⟨hb, hp⟩ => by
    rcases hp with ⟨h0, _⟩ | ⟨_, A', cp', he, hs'⟩
    · rw [h] at h0; exact absurd rfl h0
    · rw [h] at he hs'
      simp only at he hs'
      rw [hbo] at he hs'
      exact ⟨A', cp', he, hs', hb⟩
end Go.Proofs.YtfeedokfcebjjaaDoor
