/-
  Walks of the package reply: contracts of the laws.
-/
import Derived.Test.YtfeedokfcebjjaaDoorRpAwake
import Derived.Test.YtfeedokfcebjjaaDoorApp4
import Derived.Test.YtfeedokfcebjjaaDoorRpLaw4
set_option linter.unusedVariables false
set_option linter.unusedSimpArgs false
namespace Go.Proofs.YtfeedokfcebjjaaDoor
open Go.RowKit
set_option maxRecDepth 100000
attribute [local go_sem] equal3
theorem i64_wf {x : Int} (h : (Lit.int .i64 x).wf = true) : -9223372036854775808 ≤ x ∧ x ≤ 9223372036854775807 := by
  simp only [Lit.wf, Bool.and_eq_true, decide_eq_true_eq] at h
  exact h
theorem few_m (A : Option Addr) (m cp : Nat) (t : List ByteArray) (hm : t.length = m) (w : World) (hS : Strs w A t) (hl : m ≤ 9223372036854775807) (hs : ∀ s ∈ t, s.size ≤ 9223372036854775807) (r : Bool) (hr : Rp.few t = r) :
    Calls Tryd.prog 9 #[.slice A m cp] w fun e w' => e = .returned (.bool r) ∧ w' = w := by
  subst hm hr; exact few_any A cp t w hS hl hs
theorem print_bad_m (code a b c : Int) (A : Option Addr) (m cp : Nat) (t : List ByteArray) (hm : t.length = m) (w : World) (hE : Env w) (hS : Strs w A t) (hs : ∀ s ∈ t, s.size ≤ 140737488351232) (ht : m ≤ 140737488351232) (a0 : -9223372036854775808 ≤ a) (a1 : a ≤ 9223372036854775807) (b0 : -9223372036854775808 ≤ b) (b1 : b ≤ 9223372036854775807) (c0 : -9223372036854775808 ≤ c) (c1 : c ≤ 9223372036854775807) (r : Int) (hr : Rp.right code a b c t = r) (hr0 : r ≠ 0) :
    Calls Tryd.prog 12 #[.agg #[.int .i64 code, .int .i64 a, .int .i64 b, .int .i64 c, .slice A m cp]] w fun e w' => e = .returned (.tuple #[.slice none 0 0, .int .i64 r]) ∧ Below w.heap.size w w' := by
  subst hm hr; exact print_bad code a b c A cp t w hE hS hs ht a0 a1 b0 b1 c0 c1 hr0
theorem print_ok_c (code a b c : Int) (A : Option Addr) (m cp : Nat) (t : List ByteArray) (hm : t.length = m) (w : World) (hE : Env w) (hS : Strs w A t) (hs : ∀ s ∈ t, s.size ≤ 1000000) (ht : m ≤ 1000000) (hn : 1 ≤ m) (code0 : -9223372036854775808 ≤ code) (code1 : code ≤ 9223372036854775807) (a0 : -9223372036854775808 ≤ a) (a1 : a ≤ 9223372036854775807) (b0 : -9223372036854775808 ≤ b) (b1 : b ≤ 9223372036854775807) (c0 : -9223372036854775808 ≤ c) (c1 : c ≤ 9223372036854775807) (hr : Rp.right code a b c t = 0) :
    Calls Tryd.prog 12 #[.agg #[.int .i64 code, .int .i64 a, .int .i64 b, .int .i64 c, .slice A m cp]] w fun e w' => ∃ A' cp', e = .returned (.tuple #[.slice A' m cp', .int .i64 0]) ∧ Strs w' A' (Rp.prn code a b c t) ∧ m ≤ cp' ∧ Below w.heap.size w w' := by
  subst hm
  refine (print_ok code a b c A cp t w hE hS hs ht hn code0 code1 a0 a1 b0 b1 c0 c1 hr).mono ?_
  rintro e w' ⟨v, rfl, hrow, hb⟩
  obtain ⟨A', c', rfl, hs'⟩ := hrow.form
  have hc := hrow.cap
  rw [Rp.prn_length] at hc ⊢
  exact ⟨A', c', rfl, hs', hc, hb⟩
theorem same_s (code a b c : Int) (A A' : Option Addr) (m cp cp' : Nat) (xs : List ByteArray) (hm : xs.length = m) (w : World) (hx : Strs w A xs) (hy : Strs w A' xs) (lx : m ≤ 1000000) :
    Calls Tryd.prog 14 #[.agg #[.int .i64 code, .int .i64 a, .int .i64 b, .int .i64 c, .slice A m cp], .agg #[.int .i64 code, .int .i64 a, .int .i64 b, .int .i64 c, .slice A' m cp']] w fun e w' => e = .returned (.bool true) ∧ Below w.heap.size w w' := by
  have := same_m code a b c A m cp xs code a b c A' m cp' xs hm hm w hx hy lx lx
  rw [Rp.same_self] at this
  exact this
end Go.Proofs.YtfeedokfcebjjaaDoor
