/-
  Walks of the package reply: at lengths.
-/
import Derived.Test.YtfeedokfcebjjaaDoorRpParseA
import Derived.Test.YtfeedokfcebjjaaDoorRpPrint
import Derived.Test.YtfeedokfcebjjaaDoorRpSame
import Derived.Test.YtfeedokfcebjjaaDoorRpOf
import Derived.Test.YtfeedokfcebjjaaDoorKept
set_option linter.unusedVariables false
set_option linter.unusedSimpArgs false
namespace Go.Proofs.YtfeedokfcebjjaaDoor
open Go.RowKit
set_option maxRecDepth 100000
attribute [local go_sem] equal3
theorem parse_bad_m (l : List ByteArray) (A : Option Addr) (m cp : Nat) (hm : l.length = m) (x : Int) (h : Rp.prs 0 0 l = (x, 0, 0)) (hx : x ≠ 0) (w : World) (hE : Env w) (hS : Strs w A l) (hs : ∀ s ∈ l, s.size ≤ 1000000) (hl : m ≤ 1000000) :
    Calls Tryd.prog 10 #[.slice A m cp] w fun e w' => e = .returned (.tuple #[.agg #[.int .i64 0, .int .i64 0, .int .i64 0, .int .i64 0, .slice none 0 0], .int .i64 0, .int .i64 x]) ∧ Below w.heap.size w w' := by
  subst hm; exact parse_bad l A cp x h hx w hE hS hs hl
theorem parse_good_m (l : List ByteArray) (A : Option Addr) (m cp : Nat) (hm : l.length = m) (k : Nat) (n f1 f2 f3 : Int) (xs : List ByteArray) (h : Rp.prs 0 0 l = (0, k, n)) (hbo : Rp.body n ((l.take k).map Rp.say) = ((f1, f2, f3), xs)) (w : World) (hE : Env w) (hS : Strs w A l) (hs : ∀ s ∈ l, s.size ≤ 1000000) (hl : m ≤ 1000000) :
    Calls Tryd.prog 10 #[.slice A m cp] w fun e w' => ∃ A' cp', e = .returned (.tuple #[.agg #[.int .i64 n, .int .i64 f1, .int .i64 f2, .int .i64 f3, .slice A' k cp'], .int .i64 k, .int .i64 0]) ∧ Strs w' A' xs ∧ Below w.heap.size w w' := by
  subst hm; exact parse_good l A cp k n f1 f2 f3 xs h hbo w hE hS hs hl
theorem print_ok_m (code a b c : Int) (A : Option Addr) (m cp : Nat) (t : List ByteArray) (hm : t.length = m) (w : World) (hE : Env w) (hS : Strs w A t) (hs : ∀ s ∈ t, s.size ≤ 1000000) (ht : m ≤ 1000000) (hn : 1 ≤ m) (code0 : -9223372036854775808 ≤ code) (code1 : code ≤ 9223372036854775807) (a0 : -9223372036854775808 ≤ a) (a1 : a ≤ 9223372036854775807) (b0 : -9223372036854775808 ≤ b) (b1 : b ≤ 9223372036854775807) (c0 : -9223372036854775808 ≤ c) (c1 : c ≤ 9223372036854775807) (hr : Rp.right code a b c t = 0) :
    Calls Tryd.prog 12 #[.agg #[.int .i64 code, .int .i64 a, .int .i64 b, .int .i64 c, .slice A m cp]] w fun e w' => ∃ A' cp', e = .returned (.tuple #[.slice A' m cp', .int .i64 0]) ∧ Strs w' A' (Rp.prn code a b c t) ∧ Below w.heap.size w w' := by
  subst hm
  refine (print_ok code a b c A cp t w hE hS hs ht hn code0 code1 a0 a1 b0 b1 c0 c1 hr).mono ?_
  rintro e w' ⟨v, rfl, hrow, hb⟩
  obtain ⟨A', c', rfl, hs'⟩ := hrow.form
  exact ⟨A', c', by rw [Rp.prn_length], hs', hb⟩
theorem of_bad_m (code : Int) (word : ByteArray) (A : Option Addr) (m cp : Nat) (t : List ByteArray) (hm : t.length = m) (w : World) (hE : Env w) (hS : Strs w A t) (ht : m ≤ 1000000) (hw : (word.toList == []) = false) (hs : word.size ≤ 1000000)
    (hr : Rp.rd code (word ++ (⟨#[32]⟩ : ByteArray)).data.toList = (0, 0, 0, [], false)) :
    Calls Tryd.prog 21 #[.int .i64 code, .string word, .slice A m cp] w fun e w' => e = .returned (.tuple #[.agg #[.int .i64 0, .int .i64 0, .int .i64 0, .int .i64 0, .slice none 0 0], .int .i64 2]) ∧ Below w.heap.size w w' := by
  subst hm; exact of_bad code word A cp t w hE hS ht hw hs hr
theorem of_ok_m (code a b c : Int) (word : ByteArray) (A : Option Addr) (m cp : Nat) (t : List ByteArray) (hm : t.length = m) (w : World) (hE : Env w) (hS : Strs w A t) (ht : m ≤ 1000000) (hts : ∀ s ∈ t, s.size ≤ 1000000) (hw : (word.toList == []) = false) (hs : word.size ≤ 1000000)
    (hr : Rp.rd code (word ++ (⟨#[32]⟩ : ByteArray)).data.toList = (a, b, c, [], true)) (a0 : -9223372036854775808 ≤ a) (a1 : a ≤ 9223372036854775807) (b0 : -9223372036854775808 ≤ b) (b1 : b ≤ 9223372036854775807) (c0 : -9223372036854775808 ≤ c) (c1 : c ≤ 9223372036854775807) (hR : Rp.right code a b c t = 0) :
    Calls Tryd.prog 21 #[.int .i64 code, .string word, .slice A m cp] w fun e w' => ∃ A' cp', e = .returned (.tuple #[.agg #[.int .i64 code, .int .i64 a, .int .i64 b, .int .i64 c, .slice A' m cp'], .int .i64 0]) ∧ Strs w' A' t ∧ Below w.heap.size w w' := by
  subst hm; exact of_ok code a b c word A cp t w hE hS ht hts hw hs hr a0 a1 b0 b1 c0 c1 hR
theorem refSame_m (A A' : Option Addr) (m m' cp cp' : Nat) (xs ys : List ByteArray) (hm : xs.length = m) (hm' : ys.length = m') (w : World) (hx : Strs w A xs) (hy : Strs w A' ys) (lx : m ≤ 1000000) (ly : m' ≤ 1000000) :
    Calls Tryd.prog 16 #[.slice A m cp, .slice A' m' cp'] w fun e w' => e = .returned (.bool (decide (xs = ys))) ∧ Below w.heap.size w w' := by
  subst hm hm'; exact refSame_any A A' cp cp' xs ys w hx hy lx ly
theorem same_m (code a b c : Int) (A : Option Addr) (m cp : Nat) (xs : List ByteArray) (code' a' b' c' : Int) (A' : Option Addr) (m' cp' : Nat) (ys : List ByteArray) (hm : xs.length = m) (hm' : ys.length = m') (w : World) (hx : Strs w A xs) (hy : Strs w A' ys) (lx : m ≤ 1000000) (ly : m' ≤ 1000000) :
    Calls Tryd.prog 14 #[.agg #[.int .i64 code, .int .i64 a, .int .i64 b, .int .i64 c, .slice A m cp], .agg #[.int .i64 code', .int .i64 a', .int .i64 b', .int .i64 c', .slice A' m' cp']] w fun e w' => e = .returned (.bool (Rp.same code a b c xs code' a' b' c' ys)) ∧ Below w.heap.size w w' := by
  subst hm hm'; exact same_any code a b c A cp xs code' a' b' c' A' cp' ys w hx hy lx ly
theorem right_m (code a b c : Int) (A : Option Addr) (m cp : Nat) (t : List ByteArray) (hm : t.length = m) (w : World) (hE : Env w) (hS : Strs w A t) (hs : ∀ s ∈ t, s.size ≤ 140737488351232) (ht : m ≤ 140737488351232) (a0 : -9223372036854775808 ≤ a) (a1 : a ≤ 9223372036854775807) (b0 : -9223372036854775808 ≤ b) (b1 : b ≤ 9223372036854775807) (c0 : -9223372036854775808 ≤ c) (c1 : c ≤ 9223372036854775807) :
    Calls Tryd.prog 17 #[.agg #[.int .i64 code, .int .i64 a, .int .i64 b, .int .i64 c, .slice A m cp]] w fun e w' => e = .returned (.int .i64 (Rp.right code a b c t)) ∧ Below w.heap.size w w' := by
  subst hm; exact right_any code a b c A cp t w hE hS hs ht a0 a1 b0 b1 c0 c1
end Go.Proofs.YtfeedokfcebjjaaDoor
